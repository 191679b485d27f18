/- A part of the proof: X12 Ch9 X13 Ch10 X14 Ch11 Ch12 Ch13 X15 Ch14 Ch17 X20 Ch18. -/
import Derived.Test.YtkkenjdfbojdlaaGreatDoorMx27
set_option linter.all false
set_option maxRecDepth 100000
set_option maxHeartbeats 1000000
namespace Go.Hx
section
open Go.Proofs
def bhz (n:Int) (l:List Rw) (p m:List Fd) (hT:tok n l = true):a7 btb 201 [pT n l,pP (fdl p),pP (fdl m)] (aa [St.pc ((gp l p m).getD (false,0,0,0)),pB (gp l p m).isSome]):=by
 refine hpx (nt:=132) Tryz.func201 ?_;refine cw ?_;obtain ⟨hn0,hn16,hl256,hrow⟩:=om hT;refine cq 1 rfl fun hn1=>?_;refine cq 2 rfl fun hn2=>?_;refine gy ?_;refine m9 0 ?_;refine m9 1 ?_;refine d5 ?_;refine ah (ι:=Nat) (ka 2 (ka 3 (ka 6 (ka 16 (ka 17 kn))))) (kb 0 (kb 1 km)) (fun i=>⟨[(18,some (vI i))],[]⟩) (fun i=>i <= p.length /\ (∀ i',i' < i -> ∀ a',a' < l.length -> ∀ b',b' < l.length -> j3 l (p.getD i' default) a' b' = false)) (fun i=>p.length - i) (0) (⟨boe _,c5⟩) kk ?_;rintro i ⟨hi,hI⟩;refine w_5 ?_;refine hcd (fun h0=>?_) (fun h0=>?_)
 ·
  refine w_8 ?_;refine m9 2 ?_;refine dl ?_;refine ah (ι:=Nat) (ka 2 (ka 3 (ka 6 (ka 8 (ka 9 (ka 16 (ka 17 (ka 18 (ka 25 kn))))))))) (kb 0 (kb 1 (kb 2 km))) (fun a=>⟨[(26,some (vI a))],[]⟩) (fun a=>a <= l.length /\ (∀ a',a' < a -> ∀ b',b' < l.length -> j3 l (p.getD i default) a' b' = false)) (fun a=>l.length - a) (0) (⟨boe _,c5⟩) kk ?_;rintro a ⟨ha,hA⟩;refine w_5 ?_;refine hcd (fun h1=>?_) (fun h1=>?_)
  ·
   refine uk ?_;refine ah (ι:=Nat) (ka 2 (ka 3 (ka 6 (ka 8 (ka 9 (ka 10 (ka 16 (ka 17 (ka 18 (ka 25 (ka 26 (ka 31 kn)))))))))))) (kb 0 (kb 1 (kb 2 km))) (fun b=>⟨[(32,some (vI b))],[]⟩) (fun b=>b <= l.length /\ (∀ b',b' < b -> j3 l (p.getD i default) a b' = false)) (fun b=>l.length - b) (0) (⟨boe _,c5⟩) kk ?_;rintro b ⟨hb,hB⟩;refine w_5 ?_;refine hcd (fun h2=>?_) (fun h2=>?_)
   ·
    refine an8 ?_;refine qcx a3u (a7v (l.getD a default) (l.getD b default) (p.getD i default).lhs (by rw [hrow _ bsq,hrow _ bsq]) (by rw [hrow _ bsq];omega)) ?_;refine qy ?_;refine ai rfl rfl (fun r3=>?_) (fun r3=>?_)
    ·
     have h3:=r3;(iterate 12 refine qy ?_ (hg:=(gtt r3)));refine qcx a3u (a7v (l.getD a default) (l.getD b default) (p.getD i default).rhs (by rw [hrow _ bsq,hrow _ bsq]) (by rw [hrow _ bsq];omega)) ?_ (hg:=(gtt r3));refine qy ?_ (hg:=(gtt r3));refine w_3 ?_;refine am _ rfl (fun r4=>?_) (fun r4=>?_)
     · have h4:=ci (bq r3 r4);refine w_9 ?_;refine hrr ?_;have he:=bbp (m:=m) (abi (P:=fun i a b=>j3 l (p.getD i default) a b) (i:=i) (a:=a) (b:=b) bsq bsq bsq (bb2 bsr bsr) hI hA hB);exact f9 rfl rfl (by rw [he];exact CoL.refl _)
     have h4:=cj (bq r3 r4);refine w_5 ?_;refine lpz (b + 1) kk ?_;exact ⟨by show b + 1 <= _;omega,b7 hB (by first | exact amj bsr | exact acs bsr)⟩
    have h3:=r3;(iterate 14 refine k9 (gft r3) ?_);refine w_9 ?_;refine lpz (b + 1) kk ?_
    exact ⟨by show b + 1 <= _;omega,b7 hB (by first | exact amj bsr | exact acs bsr)⟩
   refine w_5 ?_;refine lpz (a + 1) kk ?_;exact ⟨by show a + 1 <= _;omega,b7 hA (fun b' hb'=>hB b' bsq)⟩
  refine w_5 ?_;refine lpz (i + 1) kk ?_;exact ⟨by show i + 1 <= _;omega,b7 hI (fun a' ha'=>hA a' bsq)⟩
 obtain rfl:i = p.length:=by omega
 have hno:=aaw (P:=fun i a b=>j3 l (p.getD i default) a b) (I:=p.length) (L:=l.length) hI;refine w_9 ?_;refine ah (ι:=Nat) (ka 3 (ka 6 (ka 71 (ka 72 kn)))) (kb 0 (kb 1 km)) (fun k=>⟨[(73,some (vI k))],[]⟩) (fun k=>k <= m.length /\ (∀ i',i' < k -> ∀ a',a' < l.length -> ∀ b',b' < l.length -> j4 l (m.getD i' default) a' b' = false)) (fun k=>m.length - k) (0) (⟨boe _,c5⟩) kk ?_;rintro k ⟨hk,hK⟩;refine w_5 ?_;refine hcd (fun h5=>?_) (fun h5=>?_)
 ·
  refine w_8 ?_;refine m9 3 ?_;refine dl ?_;refine ah (ι:=Nat) (ka 3 (ka 6 (ka 12 (ka 13 (ka 71 (ka 72 (ka 73 (ka 80 kn)))))))) (kb 0 (kb 1 (kb 3 km))) (fun c=>⟨[(81,some (vI c))],[]⟩) (fun c=>c <= l.length /\ (∀ a',a' < c -> ∀ b',b' < l.length -> j4 l (m.getD k default) a' b' = false)) (fun c=>l.length - c) (0) (⟨boe _,c5⟩) kk ?_;rintro c ⟨hc,hC⟩;refine w_5 ?_;refine hcd (fun h6=>?_) (fun h6=>?_)
  ·
   refine uk ?_;refine ah (ι:=Nat) (ka 3 (ka 6 (ka 12 (ka 13 (ka 14 (ka 71 (ka 72 (ka 73 (ka 80 (ka 81 (ka 86 kn))))))))))) (kb 0 (kb 1 (kb 3 km))) (fun d=>⟨[(87,some (vI d))],[]⟩) (fun d=>d <= l.length /\ (∀ b',b' < d -> j4 l (m.getD k default) c b' = false)) (fun d=>l.length - d) (0) (⟨boe _,c5⟩) kk ?_;rintro d ⟨hd,hD⟩;refine w_5 ?_;refine hcd (fun h7=>?_) (fun h7=>?_)
   ·
    refine an8 ?_;refine qcx a3u (a7v (l.getD c default) (l.getD d default) (m.getD k default).lhs (by rw [hrow _ bsq,hrow _ bsq]) (by rw [hrow _ bsq];omega)) ?_;refine qy ?_;refine ai rfl rfl (fun r8=>?_) (fun r8=>?_)
    ·
     have h8:=r8;(iterate 16 refine qy ?_ (hg:=(gtt r8)));refine rc rfl rfl rfl rfl rfl rfl (wgx Tryz.func226) (b0u (l.getD c default) (l.getD d default) ((m.getD k default).lhs ||| (m.getD k default).rhs) (by rw [hrow _ bsq,hrow _ bsq]) (by rw [hrow _ bsq];omega)) (⟨CoC.refl _,CoC.refl _,cci (by rw [bOr];rfl),trivial⟩) rfl (gtt r8) ?_;refine qcx aaa (akp n l (er (l.getD c default) (l.getD d default) ((m.getD k default).lhs ||| (m.getD k default).rhs))) ?_ (hg:=(gtt r8));refine qy ?_ (hg:=(gtt r8));refine w_3 ?_;refine am _ rfl (fun r9=>?_) (fun r9=>?_)
     · have h9:=ci (bq r8 r9);refine w_9 ?_;refine hrr ?_;have he:=b8j hno (abi (P:=fun i a b=>j4 l (m.getD i default) a b) (i:=k) (a:=c) (b:=d) bsq bsq bsq (bck bsr bsr) hK hC hD);exact f9 rfl rfl (by rw [he];exact CoL.refl _)
     have h9:=cj (bq r8 r9);refine w_5 ?_;refine lpz (d + 1) kk ?_;exact ⟨by show d + 1 <= _;omega,b7 hD (by first | exact aob bsr | exact acm bsr)⟩
    have h8:=r8;(iterate 19 refine k9 (gft r8) ?_);refine w_9 ?_;refine lpz (d + 1) kk ?_
    exact ⟨by show d + 1 <= _;omega,b7 hD (by first | exact aob bsr | exact acm bsr)⟩
   refine w_5 ?_;refine lpz (c + 1) kk ?_;exact ⟨by show c + 1 <= _;omega,b7 hC (fun b' hb'=>hD b' bsq)⟩
  refine w_5 ?_;refine lpz (k + 1) kk ?_;exact ⟨by show k + 1 <= _;omega,b7 hK (fun a' ha'=>hC a' bsq)⟩
 refine w_7 ?_;refine hrr ?_;have he:=bch hno (aaw (P:=fun i a b=>j4 l (m.getD i default) a b) (I:=m.length) (L:=l.length) fun j hj=>hK j bsq);exact f9 rfl rfl (by rw [he];exact CoL.refl _)
end
section
def stV (n:Int) (i:Nat) (p:AS) (c:Nat):Int:=if bw p (c:Int) = true then (c:Int) else n + (i:Int) * n + (c:Int)
def stT (n:Int) (i:Nat) (p:AS) (k:Nat):Rw:=(List.range n.toNat).map fun c=>if c < k then stV n i p c else 0
def stR (n:Int) (i:Nat) (p:AS):Rw:=(List.range n.toNat).map fun c=>stV n i p c
def bj (n:Int) (ps:List AS):List Rw:=(List.range ps.length).map fun i=>stR n i (ps.getD i default)
def a9n (n:Int) (i:Nat) (p:AS):(stR n i p).length = n.toNat:=by unfold stR;simp
def sk (n:Int) (ps:List AS):(bj n ps).length = ps.length:=by unfold bj;simp
section
variable {i:Nat} {n:Int} {ps:List AS}
def ajj (h:i < ps.length):(bj n ps).getD i default = stR n i (ps.getD i default):=by
 unfold bj;rw [bo7,boy,bpu h];rfl
variable {k:Nat}
def att (n:Int) (i:Nat) (p:AS) (h:n.toNat <= k):stT n i p k = stR n i p:=by
 unfold stT stR;refine bqx fun c hc=>?_;have:=bor.1 hc;rw [if_pos bsq]
variable {p:AS}
def ao1 {c:Nat} (h:c < n.toNat):(stT n i p k).getD c default = if c < k then stV n i p c else 0:=by
 unfold stT;rw [bo7,boy,bpu h];rfl
def ank {N:Nat} {f:Nat -> Nat -> PV} (hN:N = n.toNat) (hf:∀ a,f a 0 = .raw (.int .i64 0)):CoO (.arr true 1 3 N f) (.arr true 1 3 N (lf zC (stT n i p 0))) :=
 ⟨fun h=>h,rfl,rfl,rfl,fun a j ha hj=>by
  obtain rfl:j = 0:=by omega
  refine CoP.of_eq ?_;rw [hf];show _ = PV.raw (.int .i64 ((stT n i p 0).getD a default))
  rw [ao1 bsq,if_neg bsq]⟩
def act:∀ c,c < n.toNat -> (stT n i p (k + 1)).getD c default = if c = k then stV n i p k else (stT n i p k).getD c default:=fun c hc=>by
 rw [ao1 hc,ao1 hc];by_cases h:c = k
 · rw [if_pos h,if_pos bsq,h]
 rw [if_neg h];by_cases h2:c < k
 · rw [if_pos h2,if_pos bsq]
 rw [if_neg h2,if_neg bsq]
def azc {a b N:Nat} {x:Int} (h:bw p (k:Int) = true) (hN:N = n.toNat) (ha:a = k) (hb:b = k):
 CoO (.arr true 1 3 N (fj (fj (lf zC (stT n i p k)) a 0 [.raw (.int .i64 x)]) b 0 [.raw (.int .i64 (k:Int))])) (.arr true 1 3 N (lf zC (stT n i p (k + 1)))):=by
 subst ha hb;refine ⟨fun h=>h,rfl,rfl,rfl,fun c j hc hj=>CoP.of_eq ?_⟩;obtain rfl:j = 0:=by omega
 show _ = PV.raw (.int .i64 ((stT n i p (b + 1)).getD c default));rw [act c bsq];unfold fj;by_cases e:c = b
 · rw [if_pos ⟨e,by omega,by simp⟩,if_pos e]
   unfold stV;rw [if_pos h];rfl
 rw [if_neg (fun x=>e x.1),if_neg (fun x=>e x.1),if_neg e];rfl
def awr {a N:Nat} (h:¬ bw p (k:Int) = true) (hN:N = n.toNat) (ha:a = k):
 CoO (.arr true 1 3 N (fj (lf zC (stT n i p k)) a 0 [.raw (.int .i64 (n + (i:Int) * n + (k:Int)))])) (.arr true 1 3 N (lf zC (stT n i p (k + 1)))):=by
 subst ha;refine ⟨fun h=>h,rfl,rfl,rfl,fun c j hc hj=>CoP.of_eq ?_⟩;obtain rfl:j = 0:=by omega
 show _ = PV.raw (.int .i64 ((stT n i p (a + 1)).getD c default));rw [act c bsq];unfold fj;by_cases e:c = a
 · rw [if_pos ⟨e,by omega,by simp⟩,if_pos e]
   unfold stV;rw [if_neg h];rfl
 rw [if_neg (fun x=>e x.1),if_neg e];rfl
def b62 {s:AS}:(asI s).fdiv (2 ^ (min n.toNat 32)) = 0 <-> s >>> n.toNat = 0:=by
 rw [zq,show (0:Int) = asI 0 from rfl,ck]
def bht (h0:0 <= n) (h1:n <= 16) (hi:i <= 64):0 <= (i:Int) * n /\ (i:Int) * n <= 1024:=by
 refine ⟨Int.mul_nonneg bsq h0, ?_⟩;have h2:(i:Int) * n <= (i:Int) * 16:=Int.mul_le_mul_of_nonneg_left h1 bsq;omega
def ig (n:Int) (ps:List AS):Int × List Rw × Int :=
 if n < 0 \/ 16 < n then (0,[],7) else if 64 < ps.length then (0,[],3) else if ps.all (fun p=>decide (p >>> n.toNat = 0)) = true then (n,b5 (bj n ps),0) else (0,[],1)
def a4z (h:n < 0 \/ 16 < n):ig n ps = (0,[],7):=if_pos h
def aoc (h:¬ (n < 0 \/ 16 < n)) (h2:64 < ps.length):ig n ps = (0,[],3):=by unfold ig;rw [if_neg h,if_pos h2]
def aph (h:¬ (n < 0 \/ 16 < n)) (h2:¬ 64 < ps.length) (hi:i < ps.length) (h3:¬ (ps.getD i default) >>> n.toNat = 0):ig n ps = (0,[],1):=by
 unfold ig;rw [if_neg h,if_neg h2,if_neg (fun e=>absurd (afg (l:=ps) (p:=fun p:AS=>decide (p >>> n.toNat = 0)) hi (decide_eq_false h3)) (by rw [e];decide))]
def ad4 (h:¬ (n < 0 \/ 16 < n)) (h2:¬ 64 < ps.length) (h3:∀ j,j < ps.length -> (ps.getD j default) >>> n.toNat = 0):ig n ps = (n,b5 (bj n ps),0):=by
 unfold ig;rw [if_neg h,if_neg h2,if_pos (ake (l:=ps) (p:=fun p:AS=>decide (p >>> n.toNat = 0)) fun j hj=>decide_eq_true (h3 j hj))]
def b2d (hi:i < ps.length) (hk:n.toNat <= k):CoP (.sl n.toNat 1 false (lf zC (stT n i (ps.getD i default) k))) (lf rC (bj n ps) i 0):=by
 show CoP _ (zl ((bj n ps).getD i default));rw [ajj hi,att n i _ hk];exact CoP.sl (a9n _ _ _) (.inl rfl) (fun h=>h) fun a j ha hj=>CoP.refl _
end
end
section
open Go.Proofs
def bej (n:Int) (ps:List AS):a7 btb 128 [pI n,pP (asl ps)] (aa [pT (ig n ps).1 (ig n ps).2.1,pI (ig n ps).2.2]):=by
 refine hpx (nt:=73) Tryz.func128 ?_;refine sx7 ?_;refine m9 0 ?_;refine w_9 ?_;refine ai rfl rfl (fun r0=>?_) (fun r0=>?_)
 ·
  have h0:=tz1 r0;(iterate 2 refine k9 (gtf r0) ?_);refine d5 ?_;refine hrr ?_
  have he:=a4z (n:=n) (ps:=ps) bsq;exact f9 rfl rfl (by rw [he];exact ⟨CoC.agg ⟨CoP.refl _,bg,trivial⟩,CoC.refl _,trivial⟩)
 have h0:=tz2 r0;(iterate 2 refine qy ?_ (hg:=(gff r0)));refine w_3 ?_;refine am _ rfl (fun r1=>?_) (fun r1=>?_)
 · have h1:=tz1 (aq r0 r1);refine w_6 ?_;refine hrr ?_;have he:=a4z (n:=n) (ps:=ps) bsq;exact f9 rfl rfl (by rw [he];exact ⟨CoC.agg ⟨CoP.refl _,bg,trivial⟩,CoC.refl _,trivial⟩)
 have h1:=tz2 (aq r0 r1);refine w_7 ?_;refine hcd (fun h2=>?_) (fun h2=>?_)
 · refine w_6 ?_;refine hrr ?_;have he:=aoc (n:=n) (ps:=ps) bsq bsq;exact f9 rfl rfl (by rw [he];exact ⟨CoC.agg ⟨CoP.refl _,bg,trivial⟩,CoC.refl _,trivial⟩)
 refine w_5 ?_;refine m9 1 ?_;refine w_2 ?_;refine ui 1 1 900 true 1 84 (lf rC (bj n ps)) bsu rfl rfl (CoP.sl rfl (.inr rfl) (fun h=>h) (fun i j hi _=>absurd hi (bod i))) (.inr rfl) rfl rfl ?_;refine w_8 ?_;refine ah (ι:=Nat) (ka 0 (ka 4 (ka 6 (ka 26 (ka 27 kn))))) (kb 0 km) (fun i=>⟨[(28,some (vI i))],[(1,some (.box [.p (.raw (.int .i64 n)), .ref 900 i])),(900,some (.arr true 1 84 i (lf rC (bj n ps))))]⟩) (fun i=>i <= ps.length /\ ∀ j,j < i -> (ps.getD j default) >>> n.toNat = 0) (fun i=>ps.length - i) (0) (⟨boe _,c5⟩) kk ?_;rintro i ⟨hi,hI⟩;refine w_5 ?_;refine hcd (fun h3=>?_) (fun h3=>?_)
 ·
  have hin:=bht (n:=n) (i:=i) bsq bsq bsq;refine a3d ?_;refine hcn (fun h4=>?_) (fun h4=>?_)
  · refine w_6 ?_;refine hrr ?_;have he:=aph (n:=n) (ps:=ps) (i:=i) bsq bsq bsq (fun e=>absurd (b62.2 e) bsr);exact f9 rfl rfl (by rw [he];exact ⟨CoC.agg ⟨CoP.refl _,bg,trivial⟩,CoC.refl _,trivial⟩)
  refine w_4 ?_;refine m9 2 ?_;refine w_9 ?_;refine bp (ka 0 (ka 4 (ka 6 (ka 7 (ka 8 (ka 9 (ka 26 (ka 27 (ka 28 (ka 40 kn)))))))))) (kb 1 (kb 900 (kb 0 km))) (fun k=>⟨[(41,some (vI k))],[(2,some (.arr true 1 3 n.toNat (lf zC (stT n i (ps.getD i default) k))))]⟩) n.toNat ⟨tt,⟨⟨_,rfl,(ank rfl (fun _=>rfl))⟩,trivial⟩⟩ ?_;rintro k hk;refine w_5 ?_;refine hcd (fun h5=>?_) (fun h5=>?_)
  ·
   refine bln ?_;refine hcd (fun h6=>?_) (fun h6=>?_)
   · refine dl ?_;exact lpx (k + 1) ⟨tt,⟨⟨_,rfl,(by first | exact azc ((x5 bsq).1 bsr) rfl bsq bsq | exact awr (fun e=>absurd ((x5 bsq).2 e) bsr) rfl bsq)⟩,uu⟩⟩
   refine w_5 ?_;exact lpx (k + 1) ⟨tt,⟨⟨_,rfl,(by first | exact azc ((x5 bsq).1 bsr) rfl bsq bsq | exact awr (fun e=>absurd ((x5 bsq).2 e) bsr) rfl bsq)⟩,uu⟩⟩
  refine dy ?_;refine b6 9 rfl rfl rfl ?_;refine w_4 ?_;refine m9 3 ?_;refine r9 4 true ?_;refine w_7 ?_;refine lpz (i + 1) ⟨tt,⟨u9,⟨_,rfl,(ss (fun h=>h) (fun j hj=>by obtain rfl:j = 0:=bsq;exact b2d bsq bsq))⟩,uu⟩⟩ ?_;exact ⟨by show i + 1 <= _;omega,b7 hI (b62.1 bsr)⟩
 obtain rfl:i = ps.length:=by omega
 refine w_4 ?_;refine ik rfl rfl rfl rfl rfl rfl afu ((afv n (bj n ps) (by rw [sk];omega))) (⟨⟨CoP.refl _,congrArg (HV.ref 900) (sk _ _).symm,trivial⟩,trivial⟩) ⟨⟨_,rfl,fw rfl (sk _ _).symm⟩,trivial⟩ rfl rfl ?_;refine w_3 ?_;refine hrr ?_;have he:=ad4 (n:=n) (ps:=ps) bsq bsq (fun j hj=>hI j bsq);exact f9 rfl rfl (by rw [he];exact CoL.refl _)
end
section
def cg (n:Int):Rw:=(List.range n.toNat).map fun (i:Nat)=>(i:Int)
def a58 (n:Int):(cg n).length = n.toNat:=by unfold cg;simp
section
variable {k:Nat} {n:Int}
def b5t (h:k < n.toNat):CoP (.raw (.int .i64 (k:Int))) (lf zC (cg n) k 0):=by
 refine CoP.of_eq ?_;show _ = PV.raw (.int .i64 ((cg n).getD k default));unfold cg;rw [bo7,boy,bpu h];rfl
def adi {i:Nat} {p:AS} (h:k < n.toNat):(stR n i p).getD k default = stV n i p k:=by
 unfold stR;rw [bo7,boy,bpu h];rfl
def ath {i:Nat} {p:AS} (h:k < n.toNat) (hh:bw p (k:Int) = true):CoP (.raw (.int .i64 (k:Int))) (lf zC (stR n i p) k 0):=by
 refine CoP.of_eq ?_;show _ = PV.raw (.int .i64 ((stR n i p).getD k default));rw [adi h];unfold stV;rw [if_pos hh]
def at6 {i:Nat} {p:AS} (h:k < n.toNat) (hh:bw p (k:Int) = false):CoP (.raw (.int .i64 (n + (i:Int) * n + (k:Int)))) (lf zC (stR n i p) k 0):=by
 refine CoP.of_eq ?_;show _ = PV.raw (.int .i64 ((stR n i p).getD k default));rw [adi h];unfold stV;rw [hh,if_neg bsu]
def b04 {ps:List AS} {i:Nat} (hi:i < ps.length) (hk:k = n.toNat):CoP (.sl k 1 false (lf zC (stR n i (ps.getD i default)))) (lf rC (bj n ps) i 0):=by
 show CoP _ (zl ((bj n ps).getD i default));rw [ajj hi];exact CoP.sl (by rw [a9n,hk]) (.inl rfl) (fun h=>h) fun a j ha hj=>CoP.refl _
def a5r {s:AS} (h0:0 <= n) (h1:n <= 16):sub s (a6 n) <-> s >>> n.toNat = 0:=by
 unfold a6;rw [bq4 bsq];exact wd bsq
def bjv (l:List Rw) (x:Fd) (a b:Nat):Bool:=nx (l.getD a default) (l.getD b default) x.lhs && !(l.any fun r=>decide (r = er (l.getD a default) (l.getD b default) x.rhs))
def b5o {a b:Rw} {s:AS} {g:Nat -> Nat -> PV} {f:Nat -> Nat -> PV} {e:TypeId} (hf:∀ i j,f i j = lf zC b i j):CoO (.arr true 1 e (0 + b.length) (gv 0 g f)) (.arr true 1 e (0 + b.length) (lf zC (ow a b s 0))):=by
 rw [<- aif];exact ⟨fun h=>h,rfl,rfl,rfl,fun i j _ _=>CoP.of_eq (by simp [gv,hf])⟩
def bac {a b:Rw} {s:AS} {m:Nat} (hk:k = b.length) (hm:m = b.length):CoC (.one (.sl m 1 false (lf zC (ow a b s k)))) (pZ (er a b s)):=by
 subst hk;rw [alo];exact auw ((nq a b s).trans hm.symm)
end
end
section
open Go.Proofs
def bex (n:Int) (h16:n <= 16):a7 btb 70 [pI n] (aa [pZ (cg n)]):=by
 refine hpx (nt:=15) Tryz.func70 ?_;refine w_8 ?_;refine ct 3 900 true 1 3 (lf zC (cg n)) bsu rfl (CoP.sl rfl (.inr rfl) (fun h=>h) (fun i j hi _=>absurd hi (bod i))) (.inr rfl) rfl ?_;refine w_6 ?_;refine bp (ka 0 kn) km (fun i=>⟨[(3,some (.v (.one (.ref 900 i)))),(4,some (vI i))],[(900,some (.arr true 1 3 i (lf zC (cg n))))]⟩) n.toNat kk ?_;rintro i hi;refine w_7 ?_;refine hcd (fun h0=>?_) (fun h0=>?_)
 · refine w_6 ?_;refine m9 0 ?_;refine r9 1 true ?_;refine w_7 ?_;exact lpx (i + 1) ⟨tt,⟨⟨_,rfl,(ss (fun h=>h) (fun j hj=>by obtain rfl:j = 0:=bsq;exact b5t bsq))⟩,trivial⟩⟩
 refine w_2 ?_;refine b6 3 rfl rfl rfl ?_;refine v_4 ?_;exact ⟨CoC.one (CoP.sl (by rw [a58];omega) (.inl rfl) (fun h=>h) fun a j ha hj=>CoP.refl _),trivial⟩
def bb9 (n:Int) (ps:List AS):a7 btb 130 [pI n,pP (asl ps)] (aa [pT (ig n ps).1 (ig n ps).2.1,pI (ig n ps).2.2]):=by
 refine hpx (nt:=68) Tryz.func130 ?_;refine sx7 ?_;refine m9 0 ?_;refine w_8 ?_;refine ai rfl rfl (fun r0=>?_) (fun r0=>?_)
 ·
  have h0:=tz1 r0;(iterate 2 refine k9 (gtf r0) ?_);refine w_9 ?_;refine hrr ?_
  have he:=a4z (n:=n) (ps:=ps) bsq;exact f9 rfl rfl (by rw [he];exact ⟨CoC.agg ⟨CoP.refl _,bg,trivial⟩,CoC.refl _,trivial⟩)
 have h0:=tz2 r0;(iterate 2 refine qy ?_ (hg:=(gff r0)));refine w_2 ?_;refine am _ rfl (fun r1=>?_) (fun r1=>?_)
 · have h1:=tz1 (aq r0 r1);refine w_6 ?_;refine hrr ?_;have he:=a4z (n:=n) (ps:=ps) bsq;exact f9 rfl rfl (by rw [he];exact ⟨CoC.agg ⟨CoP.refl _,bg,trivial⟩,CoC.refl _,trivial⟩)
 have h1:=tz2 (aq r0 r1);refine w_8 ?_;refine hcd (fun h2=>?_) (fun h2=>?_)
 · refine w_6 ?_;refine hrr ?_;have he:=aoc (n:=n) (ps:=ps) bsq bsq;exact f9 rfl rfl (by rw [he];exact ⟨CoC.agg ⟨CoP.refl _,bg,trivial⟩,CoC.refl _,trivial⟩)
 refine w_5 ?_;refine ct 6 900 true 1 84 (lf rC (bj n ps)) bsu rfl (CoP.sl rfl (.inr rfl) (fun h=>h) (fun i j hi _=>absurd hi (bod i))) (.inr rfl) rfl ?_;refine w_6 ?_;refine ah (ι:=Nat) (ka 0 (ka 1 (ka 4 kn))) (kb 0 km) (fun i=>⟨[(6,some (.v (.one (.ref 900 i)))),(7,some (vI i))],[(900,some (.arr true 1 84 i (lf rC (bj n ps))))]⟩) (fun i=>i <= ps.length /\ ∀ j,j < i -> (ps.getD j default) >>> n.toNat = 0) (fun i=>ps.length - i) (0) (⟨boe _,c5⟩) kk ?_;rintro i ⟨hi,hI⟩;refine w_8 ?_;refine hcd (fun h3=>?_) (fun h3=>?_)
 ·
  have hin:=bht (n:=n) (i:=i) bsq bsq bsq;refine dl ?_;refine qcx x4 (w4 n) ?_;refine qcx qq (ye _ _) ?_;refine w_3 ?_;refine hcv (fun h4=>?_) (fun h4=>?_)
  · refine w_6 ?_;refine hrr ?_;have he:=aph (n:=n) (ps:=ps) (i:=i) bsq bsq bsq (fun e=>by have:=(a5r (n:=n) bsq bsq).2 e;simp_all);exact f9 rfl rfl (by rw [he];exact ⟨CoC.agg ⟨CoP.refl _,bg,trivial⟩,CoC.refl _,trivial⟩)
  refine w_5 ?_;refine ct 8 901 true 1 3 (lf zC (stR n i (ps.getD i default))) bsu rfl (CoP.sl rfl (.inr rfl) (fun h=>h) (fun i j hi _=>absurd hi (bod i))) (.inr rfl) rfl ?_;refine w_6 ?_;refine bp (ka 0 (ka 1 (ka 4 (ka 6 (ka 7 kn))))) (kb 900 (kb 0 km)) (fun k=>⟨[(8,some (.v (.one (.ref 901 k)))),(9,some (vI k))],[(901,some (.arr true 1 3 k (lf zC (stR n i (ps.getD i default)))))]⟩) n.toNat kk ?_;rintro k hk;refine w_7 ?_;refine hcd (fun h5=>?_) (fun h5=>?_)
  ·
   refine d5 ?_;refine qcx a0h (agk (ps.getD i default) (k:Int)) ?_;refine cu ?_;refine hcb (fun h6=>?_) (fun h6=>?_)
   · refine w_3 ?_;refine m9 1 ?_;refine r9 2 true ?_;refine w_7 ?_;exact lpx (k + 1) ⟨tt,⟨⟨_,rfl,(by first | exact (ss (fun h=>h) (fun j hj=>by obtain rfl:j = 0:=bsq;exact ath bsq bsr)) | exact (ss (fun h=>h) (fun j hj=>by obtain rfl:j = 0:=bsq;exact at6 bsq bsr)))⟩,uu⟩⟩
   refine w_9 ?_;refine m9 3 ?_;refine r9 4 true ?_;refine w_7 ?_;exact lpx (k + 1) ⟨tt,⟨⟨_,rfl,(by first | exact (ss (fun h=>h) (fun j hj=>by obtain rfl:j = 0:=bsq;exact ath bsq bsr)) | exact (ss (fun h=>h) (fun j hj=>by obtain rfl:j = 0:=bsq;exact at6 bsq bsr)))⟩,uu⟩⟩
  refine dy ?_;refine b6 8 rfl rfl rfl ?_;refine w_3 ?_;refine m9 5 ?_;refine r9 6 true ?_;refine w_7 ?_;refine lpz (i + 1) ⟨tt,⟨⟨_,rfl,(ss (fun h=>h) (fun j hj=>by obtain rfl:j = 0:=bsq;exact b04 bsq bsq))⟩,uu⟩⟩ ?_;exact ⟨by show i + 1 <= _;omega,b7 hI ((a5r bsq bsq).1 (by first | assumption | exact a2v bsr))⟩
 obtain rfl:i = ps.length:=by omega
 refine w_2 ?_;refine b6 6 rfl rfl rfl ?_;refine w_3 ?_;refine rc rfl rfl rfl rfl rfl rfl ahf (abz n (bj n ps) (by rw [sk];omega)) (⟨CoC.refl _,CoC.one (CoP.sl (by rw [sk]) (.inl rfl) (fun h=>h) fun a j ha hj=>CoP.refl _),trivial⟩) rfl rfl ?_;refine w_3 ?_;refine hrr ?_;have he:=ad4 (n:=n) (ps:=ps) bsq bsq (fun j hj=>hI j bsq);exact f9 rfl rfl (by rw [he];exact CoL.refl _)
end
section
def Wel (n:Int) (l:List Rw):Prop:=∀ r,r ∈ l -> r.length = n.toNat /\ ∀ z,z ∈ r -> 0 <= z
section
variable {l:List Rw}
def a40 {i:Nat} (h:i < l.length):l.getD i default ∈ l:=by
 rw [bo7,bo6 h];exact bp3 h
def a0j {n:Int} (h:tok n l = true):Wel n l:=by
 obtain ⟨h0,h1,h2,h3⟩:=om h;unfold tok at h;rw [boc,decide_eq_true_iff,decide_eq_true_iff] at h;rintro r hr;obtain ⟨i,hi,rfl⟩:=bou hr;have e:l.getD i default = l[i]:=by rw [bo7,bo6 hi];rfl
 rw [<- e];refine ⟨h3 i hi,fun z hz=>?_⟩;have:=h.2 i hi;unfold qu at this;rw [boc,boc] at this;have h4:=this.1.2;rw [boz,bpw] at h4;have:=h4 z hz;rw [decide_eq_true_iff] at this;omega
def b8p {n:Int} (h:tok n l = true):s6 l:=by
 unfold tok at h;rw [boc,decide_eq_true_iff,decide_eq_true_iff] at h
 have hs:∀ d i:Nat,i + d + 1 < l.length -> ltZ (l.getD i default) (l.getD (i + d + 1) default) = true:=by
  intro d
  induction d with
  | zero =>
   intro i hi;have:=h.2 (i + 1) hi;unfold qu at this;rw [boc,bph,decide_eq_true_iff] at this
   rcases this.2 with h5 | h5
   · omega
   exact h5
  | succ d ih =>
   intro i hi;have h1:=ih i bsq;have:=h.2 (i + d + 1 + 1) bsq;unfold qu at this;rw [boc,bph,decide_eq_true_iff] at this
   rcases this.2 with h5 | h5
   · omega
   exact lw h1 h5
 unfold s6;rw [bqd];intro i j hi hj hij;obtain ⟨d,rfl⟩:∃ d,j = i + d + 1:=⟨j - i - 1,by omega⟩;have:=hs d i hj;rwa [bo7,bo6 hi,bo7,bo6 hj] at this
def bh2 {n:Int} (h0:0 <= n) (h1:n <= 16) (h2:l.length <= 256) (hw:Wel n l) (ho:s6 l):tok n l = true:=by
 refine avs h0 h1 h2 fun i hi=>?_;obtain ⟨h3,h4⟩:=hw _ (a40 hi);refine a8a bsq ?_ ?_
 · rw [bpw]
   intro z hz;have:=h4 z hz;rw [decide_eq_true_iff];omega
 rcases bqa i with h | h
 · exact .inl h
 right;have:=bqd.1 ho (i - 1) i bsq hi bsq;rw [bo7,bo6 bsq,bo7,bo6 hi];exact this
def a80 {n:Int} (h0:0 <= n) (h1:n <= 16) (h2:(b5 l).length <= 256) (hw:Wel n l):tok n (b5 l) = true :=
 bh2 h0 h1 h2 (fun r hr=>hw r (ip.1 hr)) (jk l)
def inV (l:List Rw) (M:Nat -> Nat -> Int) (z:Int):Prop:=∃ i r,i < l.length /\ r < (l.getD i default).length /\ M i r = z
def asf {z:Int}:inV l (cn l) z <-> ∃ r,r ∈ l /\ z ∈ r:=by
 constructor
 · rintro ⟨i,r,hi,hr,rfl⟩
   refine ⟨_,a40 hi, ?_⟩;show (l.getD i default).getD r default ∈ _;rw [bo7 (l:=l.getD i default),bo6 hr];exact bp3 hr
 rintro ⟨r,hr,hz⟩;obtain ⟨i,hi,rfl⟩:=bou hr;obtain ⟨k,hk,rfl⟩:=bou hz;have e:l.getD i default = l[i]:=by rw [bo7,bo6 hi];rfl
 refine ⟨i,k,hi,by rw [e];exact hk, ?_⟩;show (l.getD i default).getD k default = _;rw [e,bo7,bo6 hk];rfl
def abw {M:Nat -> Nat -> Int} {z:Int}:(∃ r,r ∈ ez l M /\ z ∈ r) <-> inV l M z:=by
 constructor
 · rintro ⟨r,hr,hz⟩
   unfold ez at hr;rw [boo] at hr;obtain ⟨i,hi,rfl⟩:=hr;rw [boo] at hz;obtain ⟨k,hk,rfl⟩:=hz;exact ⟨i,k,bor.1 hi,bor.1 hk,rfl⟩
 rintro ⟨i,k,hi,hk,rfl⟩;refine ⟨(List.range (l.getD i default).length).map (M i), ?_,boo.2 ⟨k,bor.2 hk,rfl⟩⟩;unfold ez;exact boo.2 ⟨i,bor.2 hi,rfl⟩
end
section
variable {l:List Rw} {a b:Nat} (ha:a < l.length) (hb:b < l.length)
def aw8 (x y:Int):loI x y = x \/ loI x y = y:=by unfold loI;split <;> simp
def b7k (x y:Int):hiI x y = x \/ hiI x y = y:=by unfold hiI;split <;> simp
include ha hb in
def bkk {M:Nat -> Nat -> Int} {j:Nat} (hja:j < (l.getD a default).length) (hjb:j < (l.getD b default).length) {z:Int} (h:inV l (eqM M a b j) z):inV l M z:=by
 obtain ⟨i,r,hi,hr,he⟩:=h;unfold eqM at he;split at he
 · rcases aw8 (M a j) (M b j) with h | h
   · exact ⟨a,j,ha,hja,by rw [<- he,h]⟩
   exact ⟨b,j,hb,hjb,by rw [<- he,h]⟩
 exact ⟨i,r,hi,hr,he⟩
include ha hb in
def api:∀ {js:List Nat} {M:Nat -> Nat -> Int},(∀ j,j ∈ js -> j < (l.getD a default).length /\ j < (l.getD b default).length) -> ∀ {z:Int},inV l (eqMs M a b js) z -> inV l M z
 | [],_,_,_,h=>h
 | j :: js,M,hj,z,h=>bkk ha hb (hj j bst).1 (hj j bst).2 (api (js:=js) (M:=eqM M a b j) (fun k hk=>hj k (by simp [hk])) h)
include ha hb in
def ait:∀ {js:List Nat} {M:Nat -> Nat -> Int},(∀ j,j ∈ js -> j < (l.getD a default).length /\ j < (l.getD b default).length) -> (∃ j,j ∈ js /\ ¬ M a j = M b j) -> ∃ z,inV l M z /\ ¬ inV l (eqMs M a b js) z
 | [],_,_,⟨_,h,_⟩=>by simp at h
 | j :: js,M,hj,⟨k,hk,hne⟩=>by
  by_cases e:M a j = M b j
  · have e2:eqMs M a b (j :: js) = eqMs M a b js:=by
     show eqMs (eqM M a b j) a b js = _;rw [xf e]
    rw [e2];refine ait (fun k hk=>hj k (by simp [hk])) ⟨k, ?_,hne⟩
    rcases bok.1 hk with h | h
    · subst h;exact absurd e hne
    exact h
  refine ⟨hiI (M a j) (M b j), ?_,fun h=>?_⟩
  · rcases b7k (M a j) (M b j) with h | h
    · exact ⟨a,j,ha,(hj j bst).1,h.symm⟩
    exact ⟨b,j,hb,(hj j bst).2,h.symm⟩
  obtain ⟨i,r,hi,hr,he⟩:=api ha hb (fun k hk=>hj k (by simp [hk])) (show inV l (eqMs (eqM M a b j) a b js) _ from h);unfold eqM at he;split at he
  · unfold hiI loI at he
    split at he <;> split at he <;> omega
  rename_i h2;exact h2 he
end
def ag6 (Z:List Int) (l:List Rw):Nat:=Z.countP fun z=>l.any fun r=>decide (z ∈ r)
def muC (Z:List Int) (l:List Rw):Nat:=ag6 Z l * 300 + (300 - l.length)
def Cov (Z:List Int) (l:List Rw):Prop:=∀ r,r ∈ l -> ∀ z,z ∈ r -> z ∈ Z
def a0i {l:List Rw} {z:Int}:(l.any fun r=>decide (z ∈ r)) = true <-> ∃ r,r ∈ l /\ z ∈ r:=by
 rw [bp4];exact ⟨fun ⟨r,h,h2⟩=>⟨r,h,of_decide_eq_true h2⟩,fun ⟨r,h,h2⟩=>⟨r,h,decide_eq_true h2⟩⟩
def countP_lt' {p q:Int -> Bool}:∀ {Z:List Int},(∀ z,p z = true -> q z = true) -> (∃ z,z ∈ Z /\ q z = true /\ p z = false) -> Z.countP p < Z.countP q
 | [],_,⟨_,h,_⟩=>by simp at h
 | x :: Z,h,⟨z,hz,hq,hp⟩=>by
  have hm:Z.countP p <= Z.countP q:=List.countP_mono_left fun z _=>h z;rw [bqs,bqs]
  rcases bok.1 hz with rfl | hz
  · rw [hq,hp]
    simp only [if_true,bpe,if_false];omega
  have:=countP_lt' (Z:=Z) h ⟨z,hz,hq,hp⟩;by_cases e:p x = true
  · rw [e,h x e];omega
  rw [if_neg e];omega
def ba4 {Z:List Int} {l l':List Rw} (h:∀ z,(∃ r,r ∈ l' /\ z ∈ r) -> ∃ r,r ∈ l /\ z ∈ r) (h2:∃ z,z ∈ Z /\ (∃ r,r ∈ l /\ z ∈ r) /\ ¬ ∃ r,r ∈ l' /\ z ∈ r):ag6 Z l' < ag6 Z l:=by
 refine countP_lt' (fun z hz=>a0i.2 (h z (a0i.1 hz))) ?_;obtain ⟨z,h3,h4,h5⟩:=h2;exact ⟨z,h3,a0i.2 h4,by rw [bol];exact fun e=>h5 (a0i.1 e)⟩
def bbt {Z:List Int} {l l':List Rw} (h:∀ z,(∃ r,r ∈ l' /\ z ∈ r) -> ∃ r,r ∈ l /\ z ∈ r):ag6 Z l' <= ag6 Z l :=
 List.countP_mono_left fun z _ hz=>a0i.2 (h z (a0i.1 hz))
end
section
def al6 {r:Rw}:∀ {l:List Rw},r ∉ l -> (lb r l).length = l.length + 1
 | [],_=>rfl
 | y :: l,h=>by
  unfold lb;have h1:¬ r = y:=fun e=>h (by rw [e];simp);have h2:=al6 (l:=l) (r:=r) fun e=>h (by simp [e]);rw [if_neg h1];split
  · simp
  simp only [bov];omega
def axn {l:List Rw} {r:Rw} (ho:s6 l):b5 (l ++ [r]) = lb r l:=by
 have e:l = b5 l:=aoz ho fun _=>Iff.rfl
 have:b5 (l ++ [r]) = lb r (b5 l):=by
  unfold b5;rw [bpk];rfl
 rw [this,<- e]
section
variable {n:Int} {l:List Rw} {a b:Nat} {x:Fd}
abbrev fdL (l:List Rw) (a b:Nat) (x:Fd):List Rw:=b5 (ez l (eqMs (cn l) a b (al x.rhs)))
def aun (hT:tok n l = true) (hu:inU n x = true) (ha:a < l.length) (hb:b < l.length) (hs:j3 l x a b = true) :
 fdE n l a b x = (n,fdL l a b x,0) /\ tok n (fdL l a b x) = true /\ (∀ z,(∃ r,r ∈ fdL l a b x /\ z ∈ r) -> ∃ r,r ∈ l /\ z ∈ r) /\ ∀ Z,Cov Z l -> muC Z (fdL l a b x) < muC Z l:=by
 obtain ⟨h0,h1,h2,h3⟩:=om hT;have hw:=a0j hT;unfold j3 at hs;rw [boc,boz] at hs;obtain ⟨hl,hr⟩:=hs
 have hj:∀ j,j ∈ al x.rhs -> j < (l.getD a default).length /\ j < (l.getD b default).length:=fun j hj=>by
  have:=aam h0 h1 hu hj;exact ⟨by rw [h3 a ha];exact this,by rw [h3 b hb];exact this⟩
 have hV:∀ z,(∃ r,r ∈ fdL l a b x /\ z ∈ r) -> ∃ r,r ∈ l /\ z ∈ r:=fun z ⟨r,hr,hz⟩=>asf.1 (api ha hb hj (abw.1 ⟨r,ip.1 hr,hz⟩));have hlen:(fdL l a b x).length <= l.length:=bon (a21 _) (brh (nb _ _));refine ⟨if_pos hl,a80 h0 h1 (bon hlen h2) (fun r hr=>⟨?_,fun z hz=>?_⟩),hV,fun Z hZ=>?_⟩
 · unfold ez at hr
   rw [boo] at hr;obtain ⟨i,hi,rfl⟩:=hr;rw [bp2,bqm];exact h3 i (bor.1 hi)
 · obtain ⟨r2,h5,h6⟩:=hV z ⟨r,ip.2 hr,hz⟩
   exact (hw r2 h5).2 z h6
 have hne:∃ j,j ∈ al x.rhs /\ ¬ cn l a j = cn l b j:=by
  apply Classical.byContradiction;intro hno;rw [a4c] at hr
  · cases hr
  intro i hi hh;apply Classical.byContradiction;intro e
  have hi2:i < 32:=by
   have:=h3 a ha;omega
  rw [cb hi2] at hh;exact hno ⟨i,gi.2 ⟨hi2,hh⟩,e⟩
 obtain ⟨z,hz1,hz2⟩:=ait ha hb hj hne;have hz3:=asf.1 hz1;have:=ba4 (Z:=Z) hV ⟨z,by obtain ⟨r,h7,h8⟩:=hz3;exact hZ r h7 z h8,hz3,fun ⟨r,h7,h8⟩=>hz2 (abw.1 ⟨r,ip.1 h7,h8⟩)⟩;unfold muC;omega
abbrev mvL (l:List Rw) (a b:Nat) (x:Fd):List Rw:=b5 (l ++ [er (l.getD a default) (l.getD b default) (x.lhs ||| x.rhs)])
def bkl (hT:tok n l = true) (ha:a < l.length) (hb:b < l.length) (hs:j4 l x a b = true) :
 mvE n l a b x = (0,[],3) \/ (mvE n l a b x = (n,mvL l a b x,0) /\ tok n (mvL l a b x) = true /\ (∀ z,(∃ r,r ∈ mvL l a b x /\ z ∈ r) -> ∃ r,r ∈ l /\ z ∈ r) /\ ∀ Z,Cov Z l -> muC Z (mvL l a b x) < muC Z l):=by
 obtain ⟨h0,h1,h2,h3⟩:=om hT;have hw:=a0j hT;unfold j4 at hs;rw [boc,boz] at hs;obtain ⟨hl,hr⟩:=hs;have hno:=as5 hr;have hE:mvE n l a b x = xp n l (er (l.getD a default) (l.getD b default) (x.lhs ||| x.rhs)):=if_pos hl;by_cases hbig:256 < (mvL l a b x).length
 · left
   rw [hE];exact if_pos hbig
 right
 have hmem:∀ z,z ∈ er (l.getD a default) (l.getD b default) (x.lhs ||| x.rhs) -> z ∈ l.getD a default \/ z ∈ l.getD b default:=fun z hz=>by
  unfold er at hz;rw [boo] at hz;obtain ⟨i,hi,rfl⟩:=hz;have hi:=bor.1 hi;have hi2:i < (l.getD a default).length:=by rw [h3 a ha,<- h3 b hb];exact hi
  split
  · left
    rw [bo7 (l:=l.getD a default),bo6 hi2];exact bp3 hi2
  right;rw [bo7 (l:=l.getD b default),bo6 hi];exact bp3 hi
 have hV:∀ z,(∃ r,r ∈ mvL l a b x /\ z ∈ r) -> ∃ r,r ∈ l /\ z ∈ r:=fun z ⟨r,hr,hz⟩=>by
  rcases boj.1 (ip.1 hr) with h | h
  · exact ⟨r,h,hz⟩
  rw [bom] at h;subst h
  rcases hmem z hz with h | h
  · exact ⟨_,a40 ha,h⟩
  exact ⟨_,a40 hb,h⟩
 refine ⟨by rw [hE];exact if_neg hbig,a80 h0 h1 (bs4 fun e=>hbig e) (fun r hr=>⟨?_,fun z hz=>?_⟩),hV,fun Z hZ=>?_⟩
 · rcases boj.1 hr with h | h
   · exact (hw r h).1
   rw [bom] at h;subst h;rw [nq];exact h3 b hb
 · obtain ⟨r2,h5,h6⟩:=hV z ⟨r,ip.2 hr,hz⟩
   exact (hw r2 h5).2 z h6
 have e:(mvL l a b x).length = l.length + 1:=by
  show (b5 _).length = _;rw [axn (b8p hT),al6 hno]
 have:=bbt (Z:=Z) hV;unfold muC;omega
end
def ayr {α:Type} {f:Nat -> Option α}:∀ {n:Nat} {x:α},(List.range n).findSome? f = some x -> ∃ k,k < n /\ f k = some x:=fun {n x} h=>by
 obtain ⟨k,hk,e⟩:=bqt h;exact ⟨k,bor.1 hk,e⟩
def aes {P:Nat -> Nat -> Nat -> Bool} {I L i a b:Nat} (h:ol P I L = some (i,a,b)):i < I /\ a < L /\ b < L /\ P i a b = true:=by
 obtain ⟨i',hi,h⟩:=ayr h;obtain ⟨a',ha,h⟩:=ayr h;rw [Option.map_eq_some_iff] at h;obtain ⟨b',hb,e⟩:=h;simp only [bof] at e;obtain ⟨rfl,rfl,rfl⟩:=e;exact ⟨hi,ha,bor.1 (bry hb),by simpa using List.find?_some hb⟩
def a2z (l:List Rw) (p m:List Fd) (s:St):Prop:=s.2.2.1 < l.length /\ s.2.2.2 < l.length /\ ((s.1 = false /\ s.2.1 < p.length /\ j3 l (p.getD s.2.1 default) s.2.2.1 s.2.2.2 = true) \/ (s.1 = true /\ s.2.1 < m.length /\ j4 l (m.getD s.2.1 default) s.2.2.1 s.2.2.2 = true))
section
variable {l:List Rw} {m p:List Fd}
def agb {s:St} (h:gp l p m = some s):a2z l p m s:=by
 unfold gp at h;split at h
 · rename_i x e
   simp only [bo5] at h;subst h;obtain ⟨i,a,b⟩:=x;obtain ⟨h1,h2,h3,h4⟩:=aes e;exact ⟨h2,h3, .inl ⟨rfl,h1,h4⟩⟩
 rw [Option.map_eq_some_iff] at h;obtain ⟨⟨i,a,b⟩,e,rfl⟩:=h;obtain ⟨h1,h2,h3,h4⟩:=aes e;exact ⟨h2,h3, .inr ⟨rfl,h1,h4⟩⟩
def fu (n:Int) (l:List Rw) (p m:List Fd) (s:St):Int × List Rw × Int:=if s.1 = true then mvE n l s.2.2.1 s.2.2.2 (m.getD s.2.1 default) else fdE n l s.2.2.1 s.2.2.2 (p.getD s.2.1 default)
def an9 {n:Int} {s:St} (hT:tok n l = true) (hp:p.all (inU n) = true) (h:a2z l p m s):
 fu n l p m s = (0,[],3) \/ ∃ l',fu n l p m s = (n,l',0) /\ tok n l' = true /\ (∀ Z,Cov Z l -> Cov Z l' /\ muC Z l' < muC Z l):=by
 obtain ⟨ha,hb,h | h⟩:=h
 · obtain ⟨h1,h2,h3⟩:=h
   have hu:inU n (p.getD s.2.1 default) = true:=bp1.1 hp _ (by rw [bo7,bo6 h2];exact bp3 h2);obtain ⟨e,h4,h5,h6⟩:=aun hT hu ha hb h3;exact .inr ⟨_,by unfold fu;rw [if_neg (by rw [h1];decide)];exact e,h4,fun Z hZ=>⟨fun r hr z hz=>by obtain ⟨r2,h7,h8⟩:=h5 z ⟨r,hr,hz⟩;exact hZ r2 h7 z h8,h6 Z hZ⟩⟩
 obtain ⟨h1,h2,h3⟩:=h
 rcases bkl hT ha hb h3 with e | ⟨e,h4,h5,h6⟩
 · exact .inl (by unfold fu;rw [if_pos h1];exact e)
 exact .inr ⟨_,by unfold fu;rw [if_pos h1];exact e,h4,fun Z hZ=>⟨fun r hr z hz=>by obtain ⟨r2,h7,h8⟩:=h5 z ⟨r,hr,hz⟩;exact hZ r2 h7 z h8,h6 Z hZ⟩⟩
def jj:Nat -> Int -> List Rw -> List Fd -> List Fd -> List St -> List St × (Int × List Rw) × Int
 | 0,_,_,_,_,_=>([],(0,[]),0)
 | f + 1,n,l,p,m,acc =>
  match gp l p m with
  | none=>(acc,(n,l),0)
  | some s=>match fu n l p m s with
   | (n',l',e)=>if e = 0 then jj f n' l' p m (acc ++ [s]) else ([],(0,[]),e)
variable {acc:List St}
def afl {f:Nat} {n:Int} (hf:0 < f) (h:gp l p m = none):jj f n l p m acc = (acc,(n,l),0):=by
 obtain ⟨g,rfl⟩:∃ g,f = g + 1:=⟨f - 1,by omega⟩;unfold jj;rw [h]
def adh {f:Nat} {n:Int} {s:St} (hf:0 < f) (h:gp l p m = some s) {n' e:Int} {l':List Rw} (h2:fu n l p m s = (n',l',e)) (he:¬ e = 0):jj f n l p m acc = ([],(0,[]),e):=by
 obtain ⟨g,rfl⟩:∃ g,f = g + 1:=⟨f - 1,by omega⟩;unfold jj;rw [h];simp only;rw [h2];simp only;rw [if_neg he]
def a36 {f:Nat} {n:Int} {s:St} (hf:0 < f) (h:gp l p m = some s) {n':Int} {l':List Rw} (h2:fu n l p m s = (n',l',0)):jj f n l p m acc = jj (f - 1) n' l' p m (acc ++ [s]):=by
 obtain ⟨g,rfl⟩:∃ g,f = g + 1:=⟨f - 1,by omega⟩;rw [Nat.add_sub_cancel]
 conv=>lhs;unfold jj
 rw [h];simp only;rw [h2];simp only;rw [if_pos trivial]
end
end
section
open Go.Proofs
def bgu (n:Int) (l:List Rw) (p m:List Fd) (s:St) (hT:tok n l = true) (hp:p.all (inU n) = true) (h:a2z l p m s) :
 a7 btb 176 [pT n l,pP (fdl p),pP (fdl m),s.pc] (aa [pT (fu n l p m s).1 (fu n l p m s).2.1,pI (fu n l p m s).2.2]):=by
 obtain ⟨mu,i,a,b⟩:=s;obtain ⟨ha,hb,h | h⟩:=h
 · obtain ⟨h1,h2,h3⟩:=h
   cases h1;exact au6 n l p m i a b hT ha hb h2 (bp1.1 hp _ (by rw [bo7,bo6 h2];exact bp3 h2))
 obtain ⟨h1,h2,h3⟩:=h;cases h1;exact aso n l p m i a b hT ha hb h2
abbrev St.c (s:St):Nat -> PV:=fun j=>[.raw (.bool s.1), .raw (.int .i64 (s.2.1:Int)), .raw (.int .i64 (s.2.2.1:Int)), .raw (.int .i64 (s.2.2.2:Int))].getD j .any
abbrev stl (l:List St):PV:=psl 4 St.c l
abbrev ckE (n:Int) (l:List Rw) (p m:List Fd):Int:=if tok n l = true then be n p m else 1
section
variable {l:List Rw} {m p:List Fd} {n:Int}
def aou (h:ckE n l p m = 0):tok n l = true /\ be n p m = 0 /\ p.all (inU n) = true:=by
 unfold ckE at h;by_cases e:tok n l = true
 · rw [if_pos e] at h
   exact ⟨e,h,(m7 h).2.2.2.1⟩
 rw [if_neg e] at h;omega
def ni (F:Nat) (n:Int) (l:List Rw) (p m:List Fd):List St × (Int × List Rw) × Int:=if ckE n l p m = 0 then jj F n l p m [] else ([],(0,[]),ckE n l p m)
variable {F:Nat}
def b5q (h:¬ ckE n l p m = 0):ni F n l p m = ([],(0,[]),ckE n l p m):=if_neg h
def a5y (h:ckE n l p m = 0):ni F n l p m = jj F n l p m []:=if_pos h
def bbn {α:Type} {o:Option α} (h:o.isSome = false):o = none:=by cases o <;> simp_all
def b9k {α:Type} {o:Option α} (d:α) (h:o.isSome = true):o = some (o.getD d):=by cases o <;> simp_all
def amp (l:List Rw):Cov l.flatten l:=fun r hr z hz=>bs7.2 ⟨r,hr,hz⟩
structure StI (F:Nat) (n:Int) (l:List Rw) (p m:List Fd) (x:Nat × List Rw × List St):Prop where
 t:tok n x.2.1 = true
 c:Cov l.flatten x.2.1
 u:muC l.flatten x.2.1 < x.1
 b:x.2.2.length + x.1 <= F
 e:jj x.1 n x.2.1 p m x.2.2 = jj F n l p m []
theorem StI.start (hT:tok n l = true) (hF:muC l.flatten l < F):StI F n l p m (F,l,[]):=⟨hT,amp l,hF,by simp,rfl⟩
variable {x:Nat × List Rw × List St}
theorem StI.next {s:St} (h:StI F n l p m x) (hp:p.all (inU n) = true) (hS:gp x.2.1 p m = some s) (he:(fu n x.2.1 p m s).2.2 = 0):
 (fu n x.2.1 p m s).1 = n /\ StI F n l p m (x.1 - 1,(fu n x.2.1 p m s).2.1,x.2.2 ++ [s]):=by
 have hu:=h.u;have hb:=h.b
 rcases an9 h.t hp (agb hS) with e | ⟨l',e,h1,h2⟩
 · rw [e] at he;exact absurd he bsu
 have hq:=h2 _ h.c;refine ⟨by rw [e], ?_⟩;rw [e];exact ⟨h1,hq.1,by show muC _ l' < _;omega,by simp only [bob,bpz];omega,by rw [<- h.e,a36 bsq hS e]⟩
theorem StI.fin (h:StI F n l p m x) (hS:gp x.2.1 p m = none):jj F n l p m [] = (x.2.2,(n,x.2.1),0):=by
 have hu:=h.u;rw [<- h.e,afl bsq hS]
theorem StI.err {s:St} (h:StI F n l p m x) (hS:gp x.2.1 p m = some s) (he:¬ (fu n x.2.1 p m s).2.2 = 0):jj F n l p m [] = ([],(0,[]),(fu n x.2.1 p m s).2.2):=by
 have hu:=h.u;rw [<- h.e];exact adh bsq hS rfl he
end
end
section
open Go.Proofs
def beo (F:Nat) (n:Int) (l:List Rw) (p m:List Fd) (hF:tok n l = true -> muC l.flatten l < F) (hFb:F <= 4000000000):a7 btb 151 [pT n l,pP (fdl p),pP (fdl m)] (aa [pP (stl (ni F n l p m).1),pT (ni F n l p m).2.1.1 (ni F n l p m).2.1.2,pI (ni F n l p m).2.2]):=by
 refine hpx (nt:=53) Tryz.func151 ?_;refine sx7 ?_;refine m9 0 ?_;refine qy ?_;refine m9 1 ?_;refine w_8 ?_;refine qcx ah2 (acb n l p m) ?_;refine w_7 ?_;refine hcn (fun h0=>?_) (fun h0=>?_)
 · refine w_8 ?_;refine hrr ?_;have he:=b5q (F:=F) (n:=n) (l:=l) (p:=p) (m:=m) bsr;exact f9 rfl rfl (by rw [he];exact ⟨CoC.one (CoP.sl rfl (.inr rfl) (fun _=>rfl) (fun i j hi _=>absurd hi (bod i))),CoC.agg ⟨CoP.refl _,bg,trivial⟩,CoC.refl _,trivial⟩)
 have hck:ckE n l p m = 0:=by assumption
 obtain ⟨hT,hbe,hpa⟩:=aou hck;obtain ⟨hn0,hn16,hl256,hrow⟩:=om hT;have hbig:∀ i,i < l.length -> (l.getD i default).length <= 17592186044416:=fun i hi=>by rw [hrow i hi];omega
 refine w_4 ?_;refine qcx ai3 (b3d n l hbig bsq) ?_;refine w_6 ?_;refine ct 10 900 true 4 129 (lf St.c []) bsu rfl (CoP.sl rfl (.inr rfl) (fun h=>h) (fun i j hi _=>absurd hi (bod i))) (.inr rfl) rfl ?_;refine a6f ?_;refine ah (ι:=Nat × List Rw × List St) (ka 1 (ka 2 (ka 3 (ka 7 kn)))) (kb 1 km) (fun x=>⟨[(10,some (.v (.one (.ref 900 x.2.2.length))))],[(0,some (.box [.p (.raw (.int .i64 n)), .p (rl x.2.1)])),(900,some (.arr true 4 129 x.2.2.length (lf St.c x.2.2)))]⟩) (fun x=>StI F n l p m x) (fun x=>x.1) ((F,l,[])) (StI.start hT (hF hT)) kk ?_;rintro x hX;have hXu:=hX.u;have hXb:=hX.b;refine w_6 ?_;refine qcx (wgx Tryz.func201) (bhz n x.2.1 p m hX.t) ?_;refine w_3 ?_;refine m9 2 ?_;refine w_9 ?_;refine hcv (fun h1=>?_) (fun h1=>?_)
 · have hS:=bbn (by simpa using h1);refine w_9 ?_;refine b6 6 rfl rfl rfl ?_;refine hrr ?_;have he:=(a5y hck).trans (hX.fin hS);exact f9 rfl rfl (by rw [he];exact CoL.refl _)
 have hS:=b9k (false,0,0,0) (by simpa using h1);refine w_7 ?_;refine qcx ah3 (bgu n x.2.1 p m ((gp x.2.1 p m).getD (false,0,0,0)) hX.t hpa (agb hS)) ?_;refine w_3 ?_;refine m9 3 ?_;refine w_9 ?_;refine hcn (fun h2=>?_) (fun h2=>?_)
 · refine w_8 ?_;refine hrr ?_;have he:=(a5y hck).trans (hX.err hS bsr);exact f9 rfl rfl (by rw [he];exact ⟨CoC.one (CoP.sl rfl (.inr rfl) (fun _=>rfl) (fun i j hi _=>absurd hi (bod i))),CoC.agg ⟨CoP.refl _,bg,trivial⟩,CoC.refl _,trivial⟩)
 have hnx:=hX.next hpa hS bsr
 refine w_4 ?_;refine m9 4 ?_;refine r9 5 true ?_;refine w_5 ?_;refine ⟨(x.1 - 1,(fu n x.2.1 p m ((gp x.2.1 p m).getD (false,0,0,0))).2.1,x.2.2 ++ [((gp x.2.1 p m).getD (false,0,0,0))]), ?_, ?_, ?_⟩
 · exact hnx.2
 · show x.1 - 1 < x.1
   omega
 exact ⟨⟨⟨_,rfl,(c8 rfl)⟩,tt⟩,⟨⟨_,rfl,⟨CoP.of_eq (by rw [hnx.1]),CoH.refl _,trivial⟩⟩,⟨_,rfl,(ahw rfl (fun j hj=>by match j,hj with | 0,_=>exact CoP.refl _ | 1,_=>exact CoP.refl _ | 2,_=>exact CoP.refl _ | 3,_=>exact CoP.refl _) rfl)⟩,uu⟩⟩
end
section
def aq0:∀ {l:List Rw},(∀ r,r ∈ l -> r.length <= 16) -> l.flatten.length <= 16 * l.length
 | [],_=>by simp
 | r :: l,h=>by
  have h1:=h r bst;have h2:=aq0 (l:=l) fun r hr=>h r (by simp [hr]);simp only [List.flatten_cons,bob,bov];omega
abbrev FU:Nat:=1300000
def ayg {n:Int} {l:List Rw} (h:tok n l = true):muC l.flatten l < FU:=by
 obtain ⟨h0,h1,h2,h3⟩:=om h;have h4:=aq0 (l:=l) fun r hr=>by have:=(a0j h r hr).1;omega
 have h5:ag6 l.flatten l <= l.flatten.length:=List.countP_le_length;unfold muC;show _ < 1300000;omega
def be4 {n:Int} {i:Nat} {p:AS} {k a N:Nat} (h:bw p (k:Int) = true) (hN:N = n.toNat) (ha:a = k) :
 CoO (.arr true 1 3 N (fj (lf zC (stT n i p k)) a 0 [.raw (.int .i64 (k:Int))])) (.arr true 1 3 N (lf zC (stT n i p (k + 1)))):=by
 subst ha;refine ⟨fun h=>h,rfl,rfl,rfl,fun c j hc hj=>CoP.of_eq ?_⟩;obtain rfl:j = 0:=by omega
 show _ = PV.raw (.int .i64 ((stT n i p (a + 1)).getD c default));rw [act c bsq];unfold fj;by_cases e:c = a
 · rw [if_pos ⟨e,by omega,by simp⟩,if_pos e]
   unfold stV;rw [if_pos h];rfl
 rw [if_neg (fun x=>e x.1),if_neg e];rfl
def b1f {k:Nat} (h:k < 32):bw (ky 32) (k:Int) = true:=by
 rw [cb h,ly 32 k h];exact decide_eq_true h
def azl {n:Int} {k:Nat} (h1:n <= 16) (hk:n.toNat <= k):stT n 0 (ky 32) k = cg n:=by
 rw [att _ _ _ hk];unfold stR cg;refine bqx fun c hc=>?_;have:=bor.1 hc;unfold stV;rw [if_pos (b1f bsq)]
def axf {n:Int} {k:Nat} (h1:n <= 16) (hk:n.toNat <= k):CoC (.one (.sl n.toNat 1 false (lf zC (stT n 0 (ky 32) k)))) (pZ (cg n)):=by
 rw [azl h1 hk];exact auw (a58 n)
abbrev a2i (n:Int) (x:Fd):List AS:=[x.lhs ||| x.rhs,x.lhs ||| (a6 n &&& ~~~x.rhs)]
def bng (n:Int) (p m:List Fd) (x:Fd):Bool × Int :=
 if be n p m = 0 then
  if inU n x = true then
   if (ig n (a2i n x)).2.2 = 0 then
    if (ni FU (ig n (a2i n x)).1 (ig n (a2i n x)).2.1 p m).2.2 = 0 then ((ni FU (ig n (a2i n x)).1 (ig n (a2i n x)).2.1 p m).2.1.2.any (fun r=>decide (r = cg n)),0)
    else (false,(ni FU (ig n (a2i n x)).1 (ig n (a2i n x)).2.1 p m).2.2)
   else (false,(ig n (a2i n x)).2.2)
  else (false,1)
 else (false,be n p m)
end
section
def bim {r:Rw} {g f:Nat -> Nat -> PV} (hf:∀ i j,f i j = lf zC r i j):CoP (.sl (0 + r.length) 1 false (gv 0 g f)) (zl r) :=
 CoP.sl (bpc _).symm (.inl rfl) (fun h=>h) fun i j hi hj=>CoP.of_eq (by simp [gv,hf])
def aus {l:List Rw} {i k:Nat} {g f:Nat -> Nat -> PV} {e et:TypeId} (hk:k = (l.getD i default).length) (hf:∀ a b,f a b = lf zC (l.getD i default) a b) :
 CoO (.nest e et 1 (i + 1) (ua (nM l) i k) (ww (mg (cn l)) i (gv 0 g f)) none) (.nest e et 1 (i + 1) (nM l) (mg (cn l)) none):=by
 have e:gv 0 g f = lf zC (l.getD i default):=by funext a b;simp [gv,hf]
 rw [e];exact ajr hk rfl
end
section
open Go.Proofs
def b2h (l:List Rw) (hl:∀ i,i < l.length -> (l.getD i default).length <= 17592186044416) (hl2:l.length <= 5864062014805):dq btb 182 [.one (.p (rl l))] [] (.v (.one (.ref 901 l.length))) [(901, .arr true 1 84 l.length (lf rC l))] []:=by
 refine hfx (nt:=21) Tryz.func182 ?_;refine cw ?_;refine cq 0 rfl fun hn=>?_;refine w_7 ?_;refine ct 3 901 true 1 84 (lf rC l) bsu rfl (CoP.sl rfl (.inr rfl) (fun h=>h) (fun i j hi _=>absurd hi (bod i))) (.inr rfl) rfl ?_;refine w_6 ?_;refine bp (ka 0 kn) km (fun i=>⟨[(3,some (.v (.one (.ref 901 i)))),(4,some (vI i))],[(901,some (.arr true 1 84 i (lf rC l)))]⟩) l.length kk ?_;rintro i hi;refine w_8 ?_;refine hcd (fun h0=>?_) (fun h0=>?_)
 · have hli:=hl i bsq;refine w_3 ?_;refine a05 [0,1,2,3,4,5,6] [7,8,9] rfl ?_;refine a4h (E:=fy) fb ?_;refine qy ?_;refine m9 0 ?_;refine w_4 ?_;refine r9 1 true ?_;refine cu ?_;refine b6h ?_;refine azt 17 rfl rfl rfl ?_;refine au2 ?_;refine a4h (E:=fy) (L1:=[7,8,9]) (L2:=[]) fb ?_;refine m9 2 ?_;refine r9 3 true ?_;refine w_2 ?_;refine a95 ?_;refine w_5 ?_;exact lpx (i + 1) ⟨tt,⟨⟨_,rfl,(ss (fun h=>h) (fun j hj=>by obtain rfl:j = 0:=bsq;exact bim (fun _ _=>rfl)))⟩,trivial⟩⟩
 obtain rfl:i = l.length:=by omega
 refine w_6 ?_;refine hrr ?_;exact ⟨_,_,rfl,bss,CoR.refl _,uu⟩
def ayk (l:List Rw) (hl:∀ i,i < l.length -> (l.getD i default).length <= 17592186044416) (hl2:l.length <= 5864062014805):dq btb 182 [.one (.p (rl l))] [] (.v (.one (.ref 901 l.length))) [(901, .nest 84 3 1 l.length (nM l) (mg (cn l)) none)] []:=by
 refine hfx (nt:=21) Tryz.func182 ?_;refine cw ?_;refine cq 0 rfl fun hn=>?_;refine w_7 ?_;refine azu 3 901 84 3 1 (nM l) (mg (cn l)) bsu rfl rfl ?_;refine w_6 ?_;refine bp (ka 0 kn) km (fun i=>⟨[(3,some (.v (.one (.ref 901 i)))),(4,some (vI i))],[(901,some (.nest 84 3 1 i (nM l) (mg (cn l)) none))]⟩) l.length kk ?_;rintro i hi;refine w_8 ?_;refine hcd (fun h0=>?_) (fun h0=>?_)
 · have hli:=hl i bsq;refine w_5 ?_;refine m9 0 ?_;refine w_4 ?_;refine r9 1 true ?_;refine m9 2 ?_;refine r9 3 true ?_;refine w_2 ?_;refine ai7 901 0 rfl rfl ?_;refine w_5 ?_;exact lpx (i + 1) ⟨tt,⟨⟨_,rfl,(aus (bpc _) (fun _ _=>rfl))⟩,trivial⟩⟩
 obtain rfl:i = l.length:=by omega
 refine w_6 ?_;refine hrr ?_;exact ⟨_,_,rfl,bss,CoR.refl _,uu⟩
end
section
def az5 {s:AS} {n:Nat} (hn:n <= 32) (h:∀ j,j ∈ al s -> j < n):fq s n = al s:=by
 have h2:∀ d,n + d <= 32 -> fq s (n + d) = fq s n:=by
  intro d
  induction d with
  | zero=>intro _;rfl
  | succ d ih =>
   intro hd
   have hf:bw s ((n + d:Nat):Int) = false:=by
    rw [cb bsq,bol];intro e;have:=h _ (gi.2 ⟨by omega,e⟩);omega
   rw [<- ih bsq];exact vn (i:=n + d) (show n + d < 32 by omega) hf
 have:=h2 (32 - n) bsq;rw [<- this,show n + (32 - n) = 32 by omega];rfl
def vh {M:Nat -> Nat -> Int} {a b j:Nat} {js:List Nat}:eqMs M a b (js ++ [j]) = eqM (eqMs M a b js) a b j:=by
 unfold eqMs;rw [bpk];rfl
def b4m {l:List Rw} {M:Nat -> Nat -> Int} {n:Nat} (hn:n = l.length):CoP (.sl n 1 false (a1v 1 (nM l) (mg M))) (rl (ez l M)):=by
 obtain ⟨_,_,_,h1,h2⟩:=at1 (l:=l) (M:=M) (e:=25) hn;exact CoP.sl h1 (.inl rfl) (fun h=>h) h2
end
end Go.Hx

/- A part of the proof: X12 Ch9 X13 Ch10 X14 Ch11 Ch12 Ch13 X15 Ch14 Ch17 X20 Ch18. -/
import Derived.Test.YtkkenjdfbojdlaaGreatDoorJx26
set_option linter.all false
set_option maxRecDepth 100000
set_option maxHeartbeats 1000000
namespace Go.Hx
section
open Go.Proofs
def bd4 (n:Int) (l:List Rw) (p m:List Fd) (hT:tok n l = true):a6 bo6 201 [pT n l,pP (fdl p),pP (fdl m)] (a7 [St.pc ((dz l p m).getD (false,0,0,0)),pB (dz l p m).isSome]):=by
 refine hpx (nt:=132) Tryz.func201 ?_;refine ce ?_;obtain ⟨hn0,hn16,hl256,hrow⟩:=j2 hT;refine c6 1 rfl fun hn1=>?_;refine c6 2 rfl fun hn2=>?_;refine gy ?_;refine m9 0 ?_;refine m9 1 ?_;refine c7 ?_;refine ae (ι:=Nat) (ka 2 (ka 3 (ka 6 (ka 16 (ka 17 kn))))) (kb 0 (kb 1 km)) (fun i=>⟨[(18,some (vI i))],[]⟩) (fun i=>i <= p.length /\ (∀ i',i' < i -> ∀ a',a' < l.length -> ∀ b',b' < l.length -> eu l (p.getD i' default) a' b' = false)) (fun i=>p.length - i) (0) (⟨bji _,bm⟩) kk ?_;rintro i ⟨hi,hI⟩;refine w_5 ?_;refine hcd (fun h0=>?_) (fun h0=>?_)
 ·
  refine w_8 ?_;refine m9 2 ?_;refine ct ?_;refine ae (ι:=Nat) (ka 2 (ka 3 (ka 6 (ka 8 (ka 9 (ka 16 (ka 17 (ka 18 (ka 25 kn))))))))) (kb 0 (kb 1 (kb 2 km))) (fun a=>⟨[(26,some (vI a))],[]⟩) (fun a=>a <= l.length /\ (∀ a',a' < a -> ∀ b',b' < l.length -> eu l (p.getD i default) a' b' = false)) (fun a=>l.length - a) (0) (⟨bji _,bm⟩) kk ?_;rintro a ⟨ha,hA⟩;refine w_5 ?_;refine hcd (fun h1=>?_) (fun h1=>?_)
  ·
   refine sh ?_;refine ae (ι:=Nat) (ka 2 (ka 3 (ka 6 (ka 8 (ka 9 (ka 10 (ka 16 (ka 17 (ka 18 (ka 25 (ka 26 (ka 31 kn)))))))))))) (kb 0 (kb 1 (kb 2 km))) (fun b=>⟨[(32,some (vI b))],[]⟩) (fun b=>b <= l.length /\ (∀ b',b' < b -> eu l (p.getD i default) a b' = false)) (fun b=>l.length - b) (0) (⟨bji _,bm⟩) kk ?_;rintro b ⟨hb,hB⟩;refine w_5 ?_;refine hcd (fun h2=>?_) (fun h2=>?_)
   ·
    refine alj ?_;refine qcx a1j (a4o (l.getD a default) (l.getD b default) (p.getD i default).lhs (by rw [hrow _ bnl,hrow _ bnl]) (by rw [hrow _ bnl];omega)) ?_;refine qy ?_;refine ah rfl rfl (fun r3=>?_) (fun r3=>?_)
    ·
     have h3:=r3;(iterate 12 refine qy ?_ (hg:=(gtt r3)));refine qcx a1j (a4o (l.getD a default) (l.getD b default) (p.getD i default).rhs (by rw [hrow _ bnl,hrow _ bnl]) (by rw [hrow _ bnl];omega)) ?_ (hg:=(gtt r3));refine qy ?_ (hg:=(gtt r3));refine w_3 ?_;refine ak _ rfl (fun r4=>?_) (fun r4=>?_)
     · have h4:=cj (bn r3 r4);refine w_9 ?_;refine hrr ?_;have he:=b81 (m:=m) (a11 (P:=fun i a b=>eu l (p.getD i default) a b) (i:=i) (a:=a) (b:=b) bnl bnl bnl (b5k bnm bnm) hI hA hB);exact f9 rfl rfl (by rw [he];exact CoL.refl _)
     have h4:=ck (bn r3 r4);refine w_5 ?_;refine lpz (b + 1) kk ?_;exact ⟨by show b + 1 <= _;omega,ax hB (by first | exact a3c bnm | exact aag bnm)⟩
    have h3:=r3;(iterate 14 refine k9 (gft r3) ?_);refine rq rfl rfl rfl rfl rfl ?_ (hp:=r3);refine w_8 ?_;refine lpz (b + 1) kk ?_
    exact ⟨by show b + 1 <= _;omega,ax hB (by first | exact a3c bnm | exact aag bnm)⟩
   refine w_5 ?_;refine lpz (a + 1) kk ?_;exact ⟨by show a + 1 <= _;omega,ax hA (fun b' hb'=>hB b' bnl)⟩
  refine w_5 ?_;refine lpz (i + 1) kk ?_;exact ⟨by show i + 1 <= _;omega,ax hI (fun a' ha'=>hA a' bnl)⟩
 obtain rfl:i = p.length:=by omega
 have hno:=a0v (P:=fun i a b=>eu l (p.getD i default) a b) (I:=p.length) (L:=l.length) hI;refine w_9 ?_;refine ae (ι:=Nat) (ka 3 (ka 6 (ka 71 (ka 72 kn)))) (kb 0 (kb 1 km)) (fun k=>⟨[(73,some (vI k))],[]⟩) (fun k=>k <= m.length /\ (∀ i',i' < k -> ∀ a',a' < l.length -> ∀ b',b' < l.length -> ey l (m.getD i' default) a' b' = false)) (fun k=>m.length - k) (0) (⟨bji _,bm⟩) kk ?_;rintro k ⟨hk,hK⟩;refine w_5 ?_;refine hcd (fun h5=>?_) (fun h5=>?_)
 ·
  refine w_8 ?_;refine m9 3 ?_;refine ct ?_;refine ae (ι:=Nat) (ka 3 (ka 6 (ka 12 (ka 13 (ka 71 (ka 72 (ka 73 (ka 80 kn)))))))) (kb 0 (kb 1 (kb 3 km))) (fun c=>⟨[(81,some (vI c))],[]⟩) (fun c=>c <= l.length /\ (∀ a',a' < c -> ∀ b',b' < l.length -> ey l (m.getD k default) a' b' = false)) (fun c=>l.length - c) (0) (⟨bji _,bm⟩) kk ?_;rintro c ⟨hc,hC⟩;refine w_5 ?_;refine hcd (fun h6=>?_) (fun h6=>?_)
  ·
   refine sh ?_;refine ae (ι:=Nat) (ka 3 (ka 6 (ka 12 (ka 13 (ka 14 (ka 71 (ka 72 (ka 73 (ka 80 (ka 81 (ka 86 kn))))))))))) (kb 0 (kb 1 (kb 3 km))) (fun d=>⟨[(87,some (vI d))],[]⟩) (fun d=>d <= l.length /\ (∀ b',b' < d -> ey l (m.getD k default) c b' = false)) (fun d=>l.length - d) (0) (⟨bji _,bm⟩) kk ?_;rintro d ⟨hd,hD⟩;refine w_5 ?_;refine hcd (fun h7=>?_) (fun h7=>?_)
   ·
    refine alj ?_;refine qcx a1j (a4o (l.getD c default) (l.getD d default) (m.getD k default).lhs (by rw [hrow _ bnl,hrow _ bnl]) (by rw [hrow _ bnl];omega)) ?_;refine qy ?_;refine ah rfl rfl (fun r8=>?_) (fun r8=>?_)
    ·
     have h8:=r8;(iterate 16 refine qy ?_ (hg:=(gtt r8)));refine rc rfl rfl rfl rfl rfl rfl (wgx Tryz.func226) (ati (l.getD c default) (l.getD d default) ((m.getD k default).lhs ||| (m.getD k default).rhs) (by rw [hrow _ bnl,hrow _ bnl]) (by rw [hrow _ bnl];omega)) (⟨CoC.refl _,CoC.refl _,cci (by rw [bOr];rfl),trivial⟩) rfl (gtt r8) ?_;refine qcx a7g (ahf n l (dw (l.getD c default) (l.getD d default) ((m.getD k default).lhs ||| (m.getD k default).rhs))) ?_ (hg:=(gtt r8));refine qy ?_ (hg:=(gtt r8));refine w_3 ?_;refine ak _ rfl (fun r9=>?_) (fun r9=>?_)
     · have h9:=cj (bn r8 r9);refine w_9 ?_;refine hrr ?_;have he:=b6u hno (a11 (P:=fun i a b=>ey l (m.getD i default) a b) (i:=k) (a:=c) (b:=d) bnl bnl bnl (b77 bnm bnm) hK hC hD);exact f9 rfl rfl (by rw [he];exact CoL.refl _)
     have h9:=ck (bn r8 r9);refine w_5 ?_;refine lpz (d + 1) kk ?_;exact ⟨by show d + 1 <= _;omega,ax hD (by first | exact ame bnm | exact a9u bnm)⟩
    have h8:=r8;(iterate 19 refine k9 (gft r8) ?_);refine rq rfl rfl rfl rfl rfl ?_ (hp:=r8);refine w_8 ?_;refine lpz (d + 1) kk ?_
    exact ⟨by show d + 1 <= _;omega,ax hD (by first | exact ame bnm | exact a9u bnm)⟩
   refine w_5 ?_;refine lpz (c + 1) kk ?_;exact ⟨by show c + 1 <= _;omega,ax hC (fun b' hb'=>hD b' bnl)⟩
  refine w_5 ?_;refine lpz (k + 1) kk ?_;exact ⟨by show k + 1 <= _;omega,ax hK (fun a' ha'=>hC a' bnl)⟩
 refine w_7 ?_;refine hrr ?_;have he:=b7y hno (a0v (P:=fun i a b=>ey l (m.getD i default) a b) (I:=m.length) (L:=l.length) fun j hj=>hK j bnl);exact f9 rfl rfl (by rw [he];exact CoL.refl _)
end
section
def stV (n:Int) (i:Nat) (p:AS) (c:Nat):Int:=if dl p (c:Int) = true then (c:Int) else n + (i:Int) * n + (c:Int)
def stT (n:Int) (i:Nat) (p:AS) (k:Nat):Rw:=(List.range n.toNat).map fun c=>if c < k then stV n i p c else 0
def stR (n:Int) (i:Nat) (p:AS):Rw:=(List.range n.toNat).map fun c=>stV n i p c
def bj (n:Int) (ps:List AS):List Rw:=(List.range ps.length).map fun i=>stR n i (ps.getD i default)
def adv (n:Int) (i:Nat) (p:AS):(stR n i p).length = n.toNat:=by unfold stR;simp
def pj (n:Int) (ps:List AS):(bj n ps).length = ps.length:=by unfold bj;simp
section
variable {i:Nat} {n:Int} {ps:List AS}
def aft (h:i < ps.length):(bj n ps).getD i default = stR n i (ps.getD i default):=by
 unfold bj;rw [bjd,bjz,bku h];rfl
variable {k:Nat}
def ao1 (n:Int) (i:Nat) (p:AS) (h:n.toNat <= k):stT n i p k = stR n i p:=by
 unfold stT stR;refine bls fun c hc=>?_;have:=bjs.1 hc;rw [if_pos bnl]
variable {p:AS}
def ajz {c:Nat} (h:c < n.toNat):(stT n i p k).getD c default = if c < k then stV n i p c else 0:=by
 unfold stT;rw [bjd,bjz,bku h];rfl
def ajo {N:Nat} {f:Nat -> Nat -> PV} (hN:N = n.toNat) (hf:∀ a,f a 0 = .raw (.int .i64 0)):CoO (.arr true 1 3 N f) (.arr true 1 3 N (lf zC (stT n i p 0))) :=
 ⟨fun h=>h,rfl,rfl,rfl,fun a j ha hj=>by
  obtain rfl:j = 0:=by omega
  refine CoP.of_eq ?_;rw [hf];show _ = PV.raw (.int .i64 ((stT n i p 0).getD a default))
  rw [ajz bnl,if_neg bnl]⟩
def aac:∀ c,c < n.toNat -> (stT n i p (k + 1)).getD c default = if c = k then stV n i p k else (stT n i p k).getD c default:=fun c hc=>by
 rw [ajz hc,ajz hc];by_cases h:c = k
 · rw [if_pos h,if_pos bnl,h]
 rw [if_neg h];by_cases h2:c < k
 · rw [if_pos h2,if_pos bnl]
 rw [if_neg h2,if_neg bnl]
def atd {a b N:Nat} {x:Int} (h:dl p (k:Int) = true) (hN:N = n.toNat) (ha:a = k) (hb:b = k):
 CoO (.arr true 1 3 N (en (en (lf zC (stT n i p k)) a 0 [.raw (.int .i64 x)]) b 0 [.raw (.int .i64 (k:Int))])) (.arr true 1 3 N (lf zC (stT n i p (k + 1)))):=by
 subst ha hb;refine ⟨fun h=>h,rfl,rfl,rfl,fun c j hc hj=>CoP.of_eq ?_⟩;obtain rfl:j = 0:=by omega
 show _ = PV.raw (.int .i64 ((stT n i p (b + 1)).getD c default));rw [aac c bnl];unfold en;by_cases e:c = b
 · rw [if_pos ⟨e,by omega,by simp⟩,if_pos e]
   unfold stV;rw [if_pos h];rfl
 rw [if_neg (fun x=>e x.1),if_neg (fun x=>e x.1),if_neg e];rfl
def avj {a N:Nat} (h:¬ dl p (k:Int) = true) (hN:N = n.toNat) (ha:a = k):
 CoO (.arr true 1 3 N (en (lf zC (stT n i p k)) a 0 [.raw (.int .i64 (n + (i:Int) * n + (k:Int)))])) (.arr true 1 3 N (lf zC (stT n i p (k + 1)))):=by
 subst ha;refine ⟨fun h=>h,rfl,rfl,rfl,fun c j hc hj=>CoP.of_eq ?_⟩;obtain rfl:j = 0:=by omega
 show _ = PV.raw (.int .i64 ((stT n i p (a + 1)).getD c default));rw [aac c bnl];unfold en;by_cases e:c = a
 · rw [if_pos ⟨e,by omega,by simp⟩,if_pos e]
   unfold stV;rw [if_neg h];rfl
 rw [if_neg (fun x=>e x.1),if_neg e];rfl
def b26 {s:AS}:(asI s).fdiv (2 ^ (min n.toNat 32)) = 0 <-> s >>> n.toNat = 0:=by
 rw [xc,show (0:Int) = asI 0 from rfl,c8]
def ba3 (h0:0 <= n) (h1:n <= 16) (hi:i <= 64):0 <= (i:Int) * n /\ (i:Int) * n <= 1024:=by
 refine ⟨Int.mul_nonneg bnl h0, ?_⟩;have h2:(i:Int) * n <= (i:Int) * 16:=Int.mul_le_mul_of_nonneg_left h1 bnl;omega
def ge (n:Int) (ps:List AS):Int × List Rw × Int :=
 if n < 0 \/ 16 < n then (0,[],7) else if 64 < ps.length then (0,[],3) else if ps.all (fun p=>decide (p >>> n.toNat = 0)) = true then (n,av (bj n ps),0) else (0,[],1)
def a3m (h:n < 0 \/ 16 < n):ge n ps = (0,[],7):=if_pos h
def ak3 (h:¬ (n < 0 \/ 16 < n)) (h2:64 < ps.length):ge n ps = (0,[],3):=by unfold ge;rw [if_neg h,if_pos h2]
def ajk (h:¬ (n < 0 \/ 16 < n)) (h2:¬ 64 < ps.length) (hi:i < ps.length) (h3:¬ (ps.getD i default) >>> n.toNat = 0):ge n ps = (0,[],1):=by
 unfold ge;rw [if_neg h,if_neg h2,if_neg (fun e=>absurd (aas (l:=ps) (p:=fun p:AS=>decide (p >>> n.toNat = 0)) hi (decide_eq_false h3)) (by rw [e];decide))]
def a9k (h:¬ (n < 0 \/ 16 < n)) (h2:¬ 64 < ps.length) (h3:∀ j,j < ps.length -> (ps.getD j default) >>> n.toNat = 0):ge n ps = (n,av (bj n ps),0):=by
 unfold ge;rw [if_neg h,if_neg h2,if_pos (ahj (l:=ps) (p:=fun p:AS=>decide (p >>> n.toNat = 0)) fun j hj=>decide_eq_true (h3 j hj))]
def b0e (hi:i < ps.length) (hk:n.toNat <= k):CoP (.sl n.toNat 1 false (lf zC (stT n i (ps.getD i default) k))) (lf rC (bj n ps) i 0):=by
 show CoP _ (zl ((bj n ps).getD i default));rw [aft hi,ao1 n i _ hk];exact CoP.sl (adv _ _ _) (.inl rfl) (fun h=>h) fun a j ha hj=>CoP.refl _
end
end
section
open Go.Proofs
def bah (n:Int) (ps:List AS):a6 bo6 128 [pI n,pP (asl ps)] (a7 [pT (ge n ps).1 (ge n ps).2.1,pI (ge n ps).2.2]):=by
 refine hpx (nt:=73) Tryz.func128 ?_;refine sx7 ?_;refine m9 0 ?_;refine w_9 ?_;refine ah rfl rfl (fun r0=>?_) (fun r0=>?_)
 ·
  have h0:=tz1 r0;(iterate 2 refine k9 (gtf r0) ?_);refine rq rfl rfl rfl rfl rfl ?_ (hp:=r0);refine w_9 ?_;refine hrr ?_
  have he:=a3m (n:=n) (ps:=ps) bnl;exact f9 rfl rfl (by rw [he];exact ⟨CoC.agg ⟨CoP.refl _,b9,trivial⟩,CoC.refl _,trivial⟩)
 have h0:=tz2 r0;(iterate 2 refine qy ?_ (hg:=(gff r0)));refine w_3 ?_;refine ak _ rfl (fun r1=>?_) (fun r1=>?_)
 · have h1:=tz1 (am r0 r1);refine w_6 ?_;refine hrr ?_;have he:=a3m (n:=n) (ps:=ps) bnl;exact f9 rfl rfl (by rw [he];exact ⟨CoC.agg ⟨CoP.refl _,b9,trivial⟩,CoC.refl _,trivial⟩)
 have h1:=tz2 (am r0 r1);refine w_7 ?_;refine hcd (fun h2=>?_) (fun h2=>?_)
 · refine w_6 ?_;refine hrr ?_;have he:=ak3 (n:=n) (ps:=ps) bnl bnl;exact f9 rfl rfl (by rw [he];exact ⟨CoC.agg ⟨CoP.refl _,b9,trivial⟩,CoC.refl _,trivial⟩)
 refine w_5 ?_;refine m9 1 ?_;refine w_2 ?_;refine rj 1 1 900 true 1 84 (lf rC (bj n ps)) bns rfl rfl (CoP.sl rfl (.inr rfl) (fun h=>h) (fun i j hi _=>absurd hi (bjh i))) (.inr rfl) rfl rfl ?_;refine w_8 ?_;refine ae (ι:=Nat) (ka 0 (ka 4 (ka 6 (ka 26 (ka 27 kn))))) (kb 0 km) (fun i=>⟨[(28,some (vI i))],[(1,some (.box [.p (.raw (.int .i64 n)), .ref 900 i])),(900,some (.arr true 1 84 i (lf rC (bj n ps))))]⟩) (fun i=>i <= ps.length /\ ∀ j,j < i -> (ps.getD j default) >>> n.toNat = 0) (fun i=>ps.length - i) (0) (⟨bji _,bm⟩) kk ?_;rintro i ⟨hi,hI⟩;refine w_5 ?_;refine hcd (fun h3=>?_) (fun h3=>?_)
 ·
  have hin:=ba3 (n:=n) (i:=i) bnl bnl bnl;refine a0w ?_;refine hcn (fun h4=>?_) (fun h4=>?_)
  · refine w_6 ?_;refine hrr ?_;have he:=ajk (n:=n) (ps:=ps) (i:=i) bnl bnl bnl (fun e=>absurd (b26.2 e) bnm);exact f9 rfl rfl (by rw [he];exact ⟨CoC.agg ⟨CoP.refl _,b9,trivial⟩,CoC.refl _,trivial⟩)
  refine w_4 ?_;refine m9 2 ?_;refine w_9 ?_;refine bg (ka 0 (ka 4 (ka 6 (ka 7 (ka 8 (ka 9 (ka 26 (ka 27 (ka 28 (ka 40 kn)))))))))) (kb 1 (kb 900 (kb 0 km))) (fun k=>⟨[(41,some (vI k))],[(2,some (.arr true 1 3 n.toNat (lf zC (stT n i (ps.getD i default) k))))]⟩) n.toNat ⟨tt,⟨⟨_,rfl,(ajo rfl (fun _=>rfl))⟩,trivial⟩⟩ ?_;rintro k hk;refine w_5 ?_;refine hcd (fun h5=>?_) (fun h5=>?_)
  ·
   refine bg7 ?_;refine hcd (fun h6=>?_) (fun h6=>?_)
   · refine ct ?_;exact lpx (k + 1) ⟨tt,⟨⟨_,rfl,(by first | exact atd ((ud bnl).1 bnm) rfl bnl bnl | exact avj (fun e=>absurd ((ud bnl).2 e) bnm) rfl bnl)⟩,uu⟩⟩
   refine w_5 ?_;exact lpx (k + 1) ⟨tt,⟨⟨_,rfl,(by first | exact atd ((ud bnl).1 bnm) rfl bnl bnl | exact avj (fun e=>absurd ((ud bnl).2 e) bnm) rfl bnl)⟩,uu⟩⟩
  refine dj ?_;refine aq 9 rfl rfl rfl ?_;refine w_4 ?_;refine m9 3 ?_;refine r9 4 true ?_;refine w_7 ?_;refine lpz (i + 1) ⟨tt,⟨u9,⟨_,rfl,(pw (fun h=>h) (fun j hj=>by obtain rfl:j = 0:=bnl;exact b0e bnl bnl))⟩,uu⟩⟩ ?_;exact ⟨by show i + 1 <= _;omega,ax hI (b26.1 bnm)⟩
 obtain rfl:i = ps.length:=by omega
 refine w_4 ?_;refine gh rfl rfl rfl rfl rfl rfl adq ((afc n (bj n ps) (by rw [pj];omega))) (⟨⟨CoP.refl _,congrArg (HV.ref 900) (pj _ _).symm,trivial⟩,trivial⟩) ⟨⟨_,rfl,ew rfl (pj _ _).symm⟩,trivial⟩ rfl rfl ?_;refine w_3 ?_;refine hrr ?_;have he:=a9k (n:=n) (ps:=ps) bnl bnl (fun j hj=>hI j bnl);exact f9 rfl rfl (by rw [he];exact CoL.refl _)
end
section
def d7 (n:Int):Rw:=(List.range n.toNat).map fun (i:Nat)=>(i:Int)
def ad0 (n:Int):(d7 n).length = n.toNat:=by unfold d7;simp
section
variable {k:Nat} {n:Int}
def axn (h:k < n.toNat):CoP (.raw (.int .i64 (k:Int))) (lf zC (d7 n) k 0):=by
 refine CoP.of_eq ?_;show _ = PV.raw (.int .i64 ((d7 n).getD k default));unfold d7;rw [bjd,bjz,bku h];rfl
def aid {i:Nat} {p:AS} (h:k < n.toNat):(stR n i p).getD k default = stV n i p k:=by
 unfold stR;rw [bjd,bjz,bku h];rfl
def aod {i:Nat} {p:AS} (h:k < n.toNat) (hh:dl p (k:Int) = true):CoP (.raw (.int .i64 (k:Int))) (lf zC (stR n i p) k 0):=by
 refine CoP.of_eq ?_;show _ = PV.raw (.int .i64 ((stR n i p).getD k default));rw [aid h];unfold stV;rw [if_pos hh]
def ans {i:Nat} {p:AS} (h:k < n.toNat) (hh:dl p (k:Int) = false):CoP (.raw (.int .i64 (n + (i:Int) * n + (k:Int)))) (lf zC (stR n i p) k 0):=by
 refine CoP.of_eq ?_;show _ = PV.raw (.int .i64 ((stR n i p).getD k default));rw [aid h];unfold stV;rw [hh,if_neg bns]
def at3 {ps:List AS} {i:Nat} (hi:i < ps.length) (hk:k = n.toNat):CoP (.sl k 1 false (lf zC (stR n i (ps.getD i default)))) (lf rC (bj n ps) i 0):=by
 show CoP _ (zl ((bj n ps).getD i default));rw [aft hi];exact CoP.sl (by rw [adv,hk]) (.inl rfl) (fun h=>h) fun a j ha hj=>CoP.refl _
def a43 {s:AS} (h0:0 <= n) (h1:n <= 16):sub s (a8 n) <-> s >>> n.toNat = 0:=by
 unfold a8;rw [blc bnl];exact u7 bnl
def a73 (l:List Rw) (x:Fd) (a b:Nat):Bool:=k8 (l.getD a default) (l.getD b default) x.lhs && !(l.any fun r=>decide (r = dw (l.getD a default) (l.getD b default) x.rhs))
def alk {a b:Rw} {s:AS} {g:Nat -> Nat -> PV} {f:Nat -> Nat -> PV} {e:TypeId} (hf:∀ i j,f i j = lf zC b i j):CoO (.arr true 1 e (0 + b.length) (fe 0 g f)) (.arr true 1 e (0 + b.length) (lf zC (mc a b s 0))):=by
 rw [<- afl];exact ⟨fun h=>h,rfl,rfl,rfl,fun i j _ _=>CoP.of_eq (by simp [fe,hf])⟩
def aop {a b:Rw} {s:AS} {m:Nat} (hk:k = b.length) (hm:m = b.length):CoC (.one (.sl m 1 false (lf zC (mc a b s k)))) (pZ (dw a b s)):=by
 subst hk;rw [aji];exact arh ((p8 a b s).trans hm.symm)
end
end
section
open Go.Proofs
def aw8 (n:Int) (h16:n <= 16):a6 bo6 70 [pI n] (a7 [pZ (d7 n)]):=by
 refine hpx (nt:=15) Tryz.func70 ?_;refine w_8 ?_;refine cb 3 900 true 1 3 (lf zC (d7 n)) bns rfl (CoP.sl rfl (.inr rfl) (fun h=>h) (fun i j hi _=>absurd hi (bjh i))) (.inr rfl) rfl ?_;refine w_6 ?_;refine bg (ka 0 kn) km (fun i=>⟨[(3,some (.v (.one (.ref 900 i)))),(4,some (vI i))],[(900,some (.arr true 1 3 i (lf zC (d7 n))))]⟩) n.toNat kk ?_;rintro i hi;refine w_7 ?_;refine hcd (fun h0=>?_) (fun h0=>?_)
 · refine w_6 ?_;refine m9 0 ?_;refine r9 1 true ?_;refine w_7 ?_;exact lpx (i + 1) ⟨tt,⟨⟨_,rfl,(pw (fun h=>h) (fun j hj=>by obtain rfl:j = 0:=bnl;exact axn bnl))⟩,trivial⟩⟩
 refine w_2 ?_;refine aq 3 rfl rfl rfl ?_;refine v_4 ?_;exact ⟨CoC.one (CoP.sl (by rw [ad0];omega) (.inl rfl) (fun h=>h) fun a j ha hj=>CoP.refl _),trivial⟩
def b2z (n:Int) (ps:List AS):a6 bo6 130 [pI n,pP (asl ps)] (a7 [pT (ge n ps).1 (ge n ps).2.1,pI (ge n ps).2.2]):=by
 refine hpx (nt:=68) Tryz.func130 ?_;refine sx7 ?_;refine m9 0 ?_;refine w_8 ?_;refine ah rfl rfl (fun r0=>?_) (fun r0=>?_)
 ·
  have h0:=tz1 r0;(iterate 2 refine k9 (gtf r0) ?_);refine rq rfl rfl rfl rfl rfl ?_ (hp:=r0);refine w_8 ?_;refine hrr ?_
  have he:=a3m (n:=n) (ps:=ps) bnl;exact f9 rfl rfl (by rw [he];exact ⟨CoC.agg ⟨CoP.refl _,b9,trivial⟩,CoC.refl _,trivial⟩)
 have h0:=tz2 r0;(iterate 2 refine qy ?_ (hg:=(gff r0)));refine w_2 ?_;refine ak _ rfl (fun r1=>?_) (fun r1=>?_)
 · have h1:=tz1 (am r0 r1);refine w_6 ?_;refine hrr ?_;have he:=a3m (n:=n) (ps:=ps) bnl;exact f9 rfl rfl (by rw [he];exact ⟨CoC.agg ⟨CoP.refl _,b9,trivial⟩,CoC.refl _,trivial⟩)
 have h1:=tz2 (am r0 r1);refine w_8 ?_;refine hcd (fun h2=>?_) (fun h2=>?_)
 · refine w_6 ?_;refine hrr ?_;have he:=ak3 (n:=n) (ps:=ps) bnl bnl;exact f9 rfl rfl (by rw [he];exact ⟨CoC.agg ⟨CoP.refl _,b9,trivial⟩,CoC.refl _,trivial⟩)
 refine w_5 ?_;refine cb 6 900 true 1 84 (lf rC (bj n ps)) bns rfl (CoP.sl rfl (.inr rfl) (fun h=>h) (fun i j hi _=>absurd hi (bjh i))) (.inr rfl) rfl ?_;refine w_6 ?_;refine ae (ι:=Nat) (ka 0 (ka 1 (ka 4 kn))) (kb 0 km) (fun i=>⟨[(6,some (.v (.one (.ref 900 i)))),(7,some (vI i))],[(900,some (.arr true 1 84 i (lf rC (bj n ps))))]⟩) (fun i=>i <= ps.length /\ ∀ j,j < i -> (ps.getD j default) >>> n.toNat = 0) (fun i=>ps.length - i) (0) (⟨bji _,bm⟩) kk ?_;rintro i ⟨hi,hI⟩;refine w_8 ?_;refine hcd (fun h3=>?_) (fun h3=>?_)
 ·
  have hin:=ba3 (n:=n) (i:=i) bnl bnl bnl;refine ct ?_;refine qcx ov (oj n) ?_;refine qcx np (w6 _ _) ?_;refine w_3 ?_;refine hcv (fun h4=>?_) (fun h4=>?_)
  · refine w_6 ?_;refine hrr ?_;have he:=ajk (n:=n) (ps:=ps) (i:=i) bnl bnl bnl (fun e=>by have:=(a43 (n:=n) bnl bnl).2 e;simp_all);exact f9 rfl rfl (by rw [he];exact ⟨CoC.agg ⟨CoP.refl _,b9,trivial⟩,CoC.refl _,trivial⟩)
  refine w_5 ?_;refine cb 8 901 true 1 3 (lf zC (stR n i (ps.getD i default))) bns rfl (CoP.sl rfl (.inr rfl) (fun h=>h) (fun i j hi _=>absurd hi (bjh i))) (.inr rfl) rfl ?_;refine w_6 ?_;refine bg (ka 0 (ka 1 (ka 4 (ka 6 (ka 7 kn))))) (kb 900 (kb 0 km)) (fun k=>⟨[(8,some (.v (.one (.ref 901 k)))),(9,some (vI k))],[(901,some (.arr true 1 3 k (lf zC (stR n i (ps.getD i default)))))]⟩) n.toNat kk ?_;rintro k hk;refine w_7 ?_;refine hcd (fun h5=>?_) (fun h5=>?_)
  ·
   refine c7 ?_;refine qcx v7 (aa2 (ps.getD i default) (k:Int)) ?_;refine c5 ?_;refine hcb (fun h6=>?_) (fun h6=>?_)
   · refine w_3 ?_;refine m9 1 ?_;refine r9 2 true ?_;refine w_7 ?_;exact lpx (k + 1) ⟨tt,⟨⟨_,rfl,(by first | exact (pw (fun h=>h) (fun j hj=>by obtain rfl:j = 0:=bnl;exact aod bnl bnm)) | exact (pw (fun h=>h) (fun j hj=>by obtain rfl:j = 0:=bnl;exact ans bnl bnm)))⟩,uu⟩⟩
   refine w_9 ?_;refine m9 3 ?_;refine r9 4 true ?_;refine w_7 ?_;exact lpx (k + 1) ⟨tt,⟨⟨_,rfl,(by first | exact (pw (fun h=>h) (fun j hj=>by obtain rfl:j = 0:=bnl;exact aod bnl bnm)) | exact (pw (fun h=>h) (fun j hj=>by obtain rfl:j = 0:=bnl;exact ans bnl bnm)))⟩,uu⟩⟩
  refine dj ?_;refine aq 8 rfl rfl rfl ?_;refine w_3 ?_;refine m9 5 ?_;refine r9 6 true ?_;refine w_7 ?_;refine lpz (i + 1) ⟨tt,⟨⟨_,rfl,(pw (fun h=>h) (fun j hj=>by obtain rfl:j = 0:=bnl;exact at3 bnl bnl))⟩,uu⟩⟩ ?_;exact ⟨by show i + 1 <= _;omega,ax hI ((a43 bnl bnl).1 (by first | assumption | exact a15 bnm))⟩
 obtain rfl:i = ps.length:=by omega
 refine w_2 ?_;refine aq 6 rfl rfl rfl ?_;refine w_3 ?_;refine rc rfl rfl rfl rfl rfl rfl afg (a9a n (bj n ps) (by rw [pj];omega)) (⟨CoC.refl _,CoC.one (CoP.sl (by rw [pj]) (.inl rfl) (fun h=>h) fun a j ha hj=>CoP.refl _),trivial⟩) rfl rfl ?_;refine w_3 ?_;refine hrr ?_;have he:=a9k (n:=n) (ps:=ps) bnl bnl (fun j hj=>hI j bnl);exact f9 rfl rfl (by rw [he];exact CoL.refl _)
end
section
def Wel (n:Int) (l:List Rw):Prop:=∀ r,r ∈ l -> r.length = n.toNat /\ ∀ z,z ∈ r -> 0 <= z
section
variable {l:List Rw}
def a2f {i:Nat} (h:i < l.length):l.getD i default ∈ l:=by
 rw [bjd,bjc h];exact bk7 h
def y6 {n:Int} (h:tok n l = true):Wel n l:=by
 obtain ⟨h0,h1,h2,h3⟩:=j2 h;unfold tok at h;rw [bjm,decide_eq_true_iff,decide_eq_true_iff] at h;rintro r hr;obtain ⟨i,hi,rfl⟩:=bk4 hr;have e:l.getD i default = l[i]:=by rw [bjd,bjc hi];rfl
 rw [<- e];refine ⟨h3 i hi,fun z hz=>?_⟩;have:=h.2 i hi;unfold ny at this;rw [bjm,bjm] at this;have h4:=this.1.2;rw [bkc,bl5] at h4;have:=h4 z hz;rw [decide_eq_true_iff] at this;omega
def b4s {n:Int} (h:tok n l = true):oq l:=by
 unfold tok at h;rw [bjm,decide_eq_true_iff,decide_eq_true_iff] at h
 have hs:∀ d i:Nat,i + d + 1 < l.length -> ltZ (l.getD i default) (l.getD (i + d + 1) default) = true:=by
  intro d
  induction d with
  | zero =>
   intro i hi;have:=h.2 (i + 1) hi;unfold ny at this;rw [bjm,bl3,decide_eq_true_iff] at this
   rcases this.2 with h5 | h5
   · omega
   exact h5
  | succ d ih =>
   intro i hi;have h1:=ih i bnl;have:=h.2 (i + d + 1 + 1) bnl;unfold ny at this;rw [bjm,bl3,decide_eq_true_iff] at this
   rcases this.2 with h5 | h5
   · omega
   exact jx h1 h5
 unfold oq;rw [bla];intro i j hi hj hij;obtain ⟨d,rfl⟩:∃ d,j = i + d + 1:=⟨j - i - 1,by omega⟩;have:=hs d i hj;rwa [bjd,bjc hi,bjd,bjc hj] at this
def b96 {n:Int} (h0:0 <= n) (h1:n <= 16) (h2:l.length <= 256) (hw:Wel n l) (ho:oq l):tok n l = true:=by
 refine as0 h0 h1 h2 fun i hi=>?_;obtain ⟨h3,h4⟩:=hw _ (a2f hi);refine a5j bnl ?_ ?_
 · rw [bl5]
   intro z hz;have:=h4 z hz;rw [decide_eq_true_iff];omega
 rcases bl7 i with h | h
 · exact .inl h
 right;have:=bla.1 ho (i - 1) i bnl hi bnl;rw [bjd,bjc bnl,bjd,bjc hi];exact this
def a6i {n:Int} (h0:0 <= n) (h1:n <= 16) (h2:(av l).length <= 256) (hw:Wel n l):tok n (av l) = true :=
 b96 h0 h1 h2 (fun r hr=>hw r (gi.1 hr)) (ik l)
def inV (l:List Rw) (M:Nat -> Nat -> Int) (z:Int):Prop:=∃ i r,i < l.length /\ r < (l.getD i default).length /\ M i r = z
def aq8 {z:Int}:inV l (ca l) z <-> ∃ r,r ∈ l /\ z ∈ r:=by
 constructor
 · rintro ⟨i,r,hi,hr,rfl⟩
   refine ⟨_,a2f hi, ?_⟩;show (l.getD i default).getD r default ∈ _;rw [bjd (l:=l.getD i default),bjc hr];exact bk7 hr
 rintro ⟨r,hr,hz⟩;obtain ⟨i,hi,rfl⟩:=bk4 hr;obtain ⟨k,hk,rfl⟩:=bk4 hz;have e:l.getD i default = l[i]:=by rw [bjd,bjc hi];rfl
 refine ⟨i,k,hi,by rw [e];exact hk, ?_⟩;show (l.getD i default).getD k default = _;rw [e,bjd,bjc hk];rfl
def aa1 {M:Nat -> Nat -> Int} {z:Int}:(∃ r,r ∈ dv l M /\ z ∈ r) <-> inV l M z:=by
 constructor
 · rintro ⟨r,hr,hz⟩
   unfold dv at hr;rw [bkg] at hr;obtain ⟨i,hi,rfl⟩:=hr;rw [bkg] at hz;obtain ⟨k,hk,rfl⟩:=hz;exact ⟨i,k,bjs.1 hi,bjs.1 hk,rfl⟩
 rintro ⟨i,k,hi,hk,rfl⟩;refine ⟨(List.range (l.getD i default).length).map (M i), ?_,bkg.2 ⟨k,bjs.2 hk,rfl⟩⟩;unfold dv;exact bkg.2 ⟨i,bjs.2 hi,rfl⟩
end
section
variable {l:List Rw} {a b:Nat} (ha:a < l.length) (hb:b < l.length)
def arn (x y:Int):loI x y = x \/ loI x y = y:=by unfold loI;split <;> simp
def b1o (x y:Int):hiI x y = x \/ hiI x y = y:=by unfold hiI;split <;> simp
include ha hb in
def bfq {M:Nat -> Nat -> Int} {j:Nat} (hja:j < (l.getD a default).length) (hjb:j < (l.getD b default).length) {z:Int} (h:inV l (eqM M a b j) z):inV l M z:=by
 obtain ⟨i,r,hi,hr,he⟩:=h;unfold eqM at he;split at he
 · rcases arn (M a j) (M b j) with h | h
   · exact ⟨a,j,ha,hja,by rw [<- he,h]⟩
   exact ⟨b,j,hb,hjb,by rw [<- he,h]⟩
 exact ⟨i,r,hi,hr,he⟩
include ha hb in
def amo:∀ {js:List Nat} {M:Nat -> Nat -> Int},(∀ j,j ∈ js -> j < (l.getD a default).length /\ j < (l.getD b default).length) -> ∀ {z:Int},inV l (eqMs M a b js) z -> inV l M z
 | [],_,_,_,h=>h
 | j :: js,M,hj,z,h=>bfq ha hb (hj j bnp).1 (hj j bnp).2 (amo (js:=js) (M:=eqM M a b j) (fun k hk=>hj k (by simp [hk])) h)
include ha hb in
def agp:∀ {js:List Nat} {M:Nat -> Nat -> Int},(∀ j,j ∈ js -> j < (l.getD a default).length /\ j < (l.getD b default).length) -> (∃ j,j ∈ js /\ ¬ M a j = M b j) -> ∃ z,inV l M z /\ ¬ inV l (eqMs M a b js) z
 | [],_,_,⟨_,h,_⟩=>by simp at h
 | j :: js,M,hj,⟨k,hk,hne⟩=>by
  by_cases e:M a j = M b j
  · have e2:eqMs M a b (j :: js) = eqMs M a b js:=by
     show eqMs (eqM M a b j) a b js = _;rw [uv e]
    rw [e2];refine agp (fun k hk=>hj k (by simp [hk])) ⟨k, ?_,hne⟩
    rcases bjq.1 hk with h | h
    · subst h;exact absurd e hne
    exact h
  refine ⟨hiI (M a j) (M b j), ?_,fun h=>?_⟩
  · rcases b1o (M a j) (M b j) with h | h
    · exact ⟨a,j,ha,(hj j bnp).1,h.symm⟩
    exact ⟨b,j,hb,(hj j bnp).2,h.symm⟩
  obtain ⟨i,r,hi,hr,he⟩:=amo ha hb (fun k hk=>hj k (by simp [hk])) (show inV l (eqMs (eqM M a b j) a b js) _ from h);unfold eqM at he;split at he
  · unfold hiI loI at he
    split at he <;> split at he <;> omega
  rename_i h2;exact h2 he
end
def aec (Z:List Int) (l:List Rw):Nat:=Z.countP fun z=>l.any fun r=>decide (z ∈ r)
def muC (Z:List Int) (l:List Rw):Nat:=aec Z l * 300 + (300 - l.length)
def Cov (Z:List Int) (l:List Rw):Prop:=∀ r,r ∈ l -> ∀ z,z ∈ r -> z ∈ Z
def yc {l:List Rw} {z:Int}:(l.any fun r=>decide (z ∈ r)) = true <-> ∃ r,r ∈ l /\ z ∈ r:=by
 rw [bke];exact ⟨fun ⟨r,h,h2⟩=>⟨r,h,of_decide_eq_true h2⟩,fun ⟨r,h,h2⟩=>⟨r,h,decide_eq_true h2⟩⟩
def countP_lt' {p q:Int -> Bool}:∀ {Z:List Int},(∀ z,p z = true -> q z = true) -> (∃ z,z ∈ Z /\ q z = true /\ p z = false) -> Z.countP p < Z.countP q
 | [],_,⟨_,h,_⟩=>by simp at h
 | x :: Z,h,⟨z,hz,hq,hp⟩=>by
  have hm:Z.countP p <= Z.countP q:=List.countP_mono_left fun z _=>h z;rw [bm0,bm0]
  rcases bjq.1 hz with rfl | hz
  · rw [hq,hp]
    simp only [if_true,bkr,if_false];omega
  have:=countP_lt' (Z:=Z) h ⟨z,hz,hq,hp⟩;by_cases e:p x = true
  · rw [e,h x e];omega
  rw [if_neg e];omega
def b37 {Z:List Int} {l l':List Rw} (h:∀ z,(∃ r,r ∈ l' /\ z ∈ r) -> ∃ r,r ∈ l /\ z ∈ r) (h2:∃ z,z ∈ Z /\ (∃ r,r ∈ l /\ z ∈ r) /\ ¬ ∃ r,r ∈ l' /\ z ∈ r):aec Z l' < aec Z l:=by
 refine countP_lt' (fun z hz=>yc.2 (h z (yc.1 hz))) ?_;obtain ⟨z,h3,h4,h5⟩:=h2;exact ⟨z,h3,yc.2 h4,by rw [bjp];exact fun e=>h5 (yc.1 e)⟩
def b6k {Z:List Int} {l l':List Rw} (h:∀ z,(∃ r,r ∈ l' /\ z ∈ r) -> ∃ r,r ∈ l /\ z ∈ r):aec Z l' <= aec Z l :=
 List.countP_mono_left fun z _ hz=>yc.2 (h z (yc.1 hz))
end
section
def aj1 {r:Rw}:∀ {l:List Rw},r ∉ l -> (jl r l).length = l.length + 1
 | [],_=>rfl
 | y :: l,h=>by
  unfold jl;have h1:¬ r = y:=fun e=>h (by rw [e];simp);have h2:=aj1 (l:=l) (r:=r) fun e=>h (by simp [e]);rw [if_neg h1];split
  · simp
  simp only [bk5];omega
def at9 {l:List Rw} {r:Rw} (ho:oq l):av (l ++ [r]) = jl r l:=by
 have e:l = av l:=air ho fun _=>Iff.rfl
 have:av (l ++ [r]) = jl r (av l):=by
  unfold av;rw [bki];rfl
 rw [this,<- e]
section
variable {n:Int} {l:List Rw} {a b:Nat} {x:Fd}
abbrev fdL (l:List Rw) (a b:Nat) (x:Fd):List Rw:=av (dv l (eqMs (ca l) a b (aj x.rhs)))
def asw (hT:tok n l = true) (hu:inU n x = true) (ha:a < l.length) (hb:b < l.length) (hs:eu l x a b = true) :
 fdE n l a b x = (n,fdL l a b x,0) /\ tok n (fdL l a b x) = true /\ (∀ z,(∃ r,r ∈ fdL l a b x /\ z ∈ r) -> ∃ r,r ∈ l /\ z ∈ r) /\ ∀ Z,Cov Z l -> muC Z (fdL l a b x) < muC Z l:=by
 obtain ⟨h0,h1,h2,h3⟩:=j2 hT;have hw:=y6 hT;unfold eu at hs;rw [bjm,bkc] at hs;obtain ⟨hl,hr⟩:=hs
 have hj:∀ j,j ∈ aj x.rhs -> j < (l.getD a default).length /\ j < (l.getD b default).length:=fun j hj=>by
  have:=a7x h0 h1 hu hj;exact ⟨by rw [h3 a ha];exact this,by rw [h3 b hb];exact this⟩
 have hV:∀ z,(∃ r,r ∈ fdL l a b x /\ z ∈ r) -> ∃ r,r ∈ l /\ z ∈ r:=fun z ⟨r,hr,hz⟩=>aq8.1 (amo ha hb hj (aa1.1 ⟨r,gi.1 hr,hz⟩));have hlen:(fdL l a b x).length <= l.length:=bjr (a0n _) (bmo (lr _ _));refine ⟨if_pos hl,a6i h0 h1 (bjr hlen h2) (fun r hr=>⟨?_,fun z hz=>?_⟩),hV,fun Z hZ=>?_⟩
 · unfold dv at hr
   rw [bkg] at hr;obtain ⟨i,hi,rfl⟩:=hr;rw [bk0,blu];exact h3 i (bjs.1 hi)
 · obtain ⟨r2,h5,h6⟩:=hV z ⟨r,gi.2 hr,hz⟩
   exact (hw r2 h5).2 z h6
 have hne:∃ j,j ∈ aj x.rhs /\ ¬ ca l a j = ca l b j:=by
  apply Classical.byContradiction;intro hno;rw [a21] at hr
  · cases hr
  intro i hi hh;apply Classical.byContradiction;intro e
  have hi2:i < 32:=by
   have:=h3 a ha;omega
  rw [j1 hi2] at hh;exact hno ⟨i,jc.2 ⟨hi2,hh⟩,e⟩
 obtain ⟨z,hz1,hz2⟩:=agp ha hb hj hne;have hz3:=aq8.1 hz1;have:=b37 (Z:=Z) hV ⟨z,by obtain ⟨r,h7,h8⟩:=hz3;exact hZ r h7 z h8,hz3,fun ⟨r,h7,h8⟩=>hz2 (aa1.1 ⟨r,gi.1 h7,h8⟩)⟩;unfold muC;omega
abbrev mvL (l:List Rw) (a b:Nat) (x:Fd):List Rw:=av (l ++ [dw (l.getD a default) (l.getD b default) (x.lhs ||| x.rhs)])
def bfk (hT:tok n l = true) (ha:a < l.length) (hb:b < l.length) (hs:ey l x a b = true) :
 mvE n l a b x = (0,[],3) \/ (mvE n l a b x = (n,mvL l a b x,0) /\ tok n (mvL l a b x) = true /\ (∀ z,(∃ r,r ∈ mvL l a b x /\ z ∈ r) -> ∃ r,r ∈ l /\ z ∈ r) /\ ∀ Z,Cov Z l -> muC Z (mvL l a b x) < muC Z l):=by
 obtain ⟨h0,h1,h2,h3⟩:=j2 hT;have hw:=y6 hT;unfold ey at hs;rw [bjm,bkc] at hs;obtain ⟨hl,hr⟩:=hs;have hno:=apy hr;have hE:mvE n l a b x = vv n l (dw (l.getD a default) (l.getD b default) (x.lhs ||| x.rhs)):=if_pos hl;by_cases hbig:256 < (mvL l a b x).length
 · left
   rw [hE];exact if_pos hbig
 right
 have hmem:∀ z,z ∈ dw (l.getD a default) (l.getD b default) (x.lhs ||| x.rhs) -> z ∈ l.getD a default \/ z ∈ l.getD b default:=fun z hz=>by
  unfold dw at hz;rw [bkg] at hz;obtain ⟨i,hi,rfl⟩:=hz;have hi:=bjs.1 hi;have hi2:i < (l.getD a default).length:=by rw [h3 a ha,<- h3 b hb];exact hi
  split
  · left
    rw [bjd (l:=l.getD a default),bjc hi2];exact bk7 hi2
  right;rw [bjd (l:=l.getD b default),bjc hi];exact bk7 hi
 have hV:∀ z,(∃ r,r ∈ mvL l a b x /\ z ∈ r) -> ∃ r,r ∈ l /\ z ∈ r:=fun z ⟨r,hr,hz⟩=>by
  rcases bjw.1 (gi.1 hr) with h | h
  · exact ⟨r,h,hz⟩
  rw [bjy] at h;subst h
  rcases hmem z hz with h | h
  · exact ⟨_,a2f ha,h⟩
  exact ⟨_,a2f hb,h⟩
 refine ⟨by rw [hE];exact if_neg hbig,a6i h0 h1 (bn1 fun e=>hbig e) (fun r hr=>⟨?_,fun z hz=>?_⟩),hV,fun Z hZ=>?_⟩
 · rcases bjw.1 hr with h | h
   · exact (hw r h).1
   rw [bjy] at h;subst h;rw [p8];exact h3 b hb
 · obtain ⟨r2,h5,h6⟩:=hV z ⟨r,gi.2 hr,hz⟩
   exact (hw r2 h5).2 z h6
 have e:(mvL l a b x).length = l.length + 1:=by
  show (av _).length = _;rw [at9 (b4s hT),aj1 hno]
 have:=b6k (Z:=Z) hV;unfold muC;omega
end
def avf {α:Type} {f:Nat -> Option α}:∀ {n:Nat} {x:α},(List.range n).findSome? f = some x -> ∃ k,k < n /\ f k = some x:=fun {n x} h=>by
 obtain ⟨k,hk,e⟩:=bn3 h;exact ⟨k,bjs.1 hk,e⟩
def a49 {P:Nat -> Nat -> Nat -> Bool} {I L i a b:Nat} (h:ff P I L = some (i,a,b)):i < I /\ a < L /\ b < L /\ P i a b = true:=by
 obtain ⟨i',hi,h⟩:=avf h;obtain ⟨a',ha,h⟩:=avf h;rw [Option.map_eq_some_iff] at h;obtain ⟨b',hb,e⟩:=h;simp only [bjl] at e;obtain ⟨rfl,rfl,rfl⟩:=e;exact ⟨hi,ha,bjs.1 (List.mem_of_find?_eq_some hb),by simpa using List.find?_some hb⟩
def xg (l:List Rw) (p m:List Fd) (s:St):Prop:=s.2.2.1 < l.length /\ s.2.2.2 < l.length /\ ((s.1 = false /\ s.2.1 < p.length /\ eu l (p.getD s.2.1 default) s.2.2.1 s.2.2.2 = true) \/ (s.1 = true /\ s.2.1 < m.length /\ ey l (m.getD s.2.1 default) s.2.2.1 s.2.2.2 = true))
section
variable {l:List Rw} {m p:List Fd}
def a7q {s:St} (h:dz l p m = some s):xg l p m s:=by
 unfold dz at h;split at h
 · rename_i x e
   simp only [bjb] at h;subst h;obtain ⟨i,a,b⟩:=x;obtain ⟨h1,h2,h3,h4⟩:=a49 e;exact ⟨h2,h3, .inl ⟨rfl,h1,h4⟩⟩
 rw [Option.map_eq_some_iff] at h;obtain ⟨⟨i,a,b⟩,e,rfl⟩:=h;obtain ⟨h1,h2,h3,h4⟩:=a49 e;exact ⟨h2,h3, .inr ⟨rfl,h1,h4⟩⟩
def du (n:Int) (l:List Rw) (p m:List Fd) (s:St):Int × List Rw × Int:=if s.1 = true then mvE n l s.2.2.1 s.2.2.2 (m.getD s.2.1 default) else fdE n l s.2.2.1 s.2.2.2 (p.getD s.2.1 default)
def ajr {n:Int} {s:St} (hT:tok n l = true) (hp:p.all (inU n) = true) (h:xg l p m s):
 du n l p m s = (0,[],3) \/ ∃ l',du n l p m s = (n,l',0) /\ tok n l' = true /\ (∀ Z,Cov Z l -> Cov Z l' /\ muC Z l' < muC Z l):=by
 obtain ⟨ha,hb,h | h⟩:=h
 · obtain ⟨h1,h2,h3⟩:=h
   have hu:inU n (p.getD s.2.1 default) = true:=bkk.1 hp _ (by rw [bjd,bjc h2];exact bk7 h2);obtain ⟨e,h4,h5,h6⟩:=asw hT hu ha hb h3;exact .inr ⟨_,by unfold du;rw [if_neg (by rw [h1];decide)];exact e,h4,fun Z hZ=>⟨fun r hr z hz=>by obtain ⟨r2,h7,h8⟩:=h5 z ⟨r,hr,hz⟩;exact hZ r2 h7 z h8,h6 Z hZ⟩⟩
 obtain ⟨h1,h2,h3⟩:=h
 rcases bfk hT ha hb h3 with e | ⟨e,h4,h5,h6⟩
 · exact .inl (by unfold du;rw [if_pos h1];exact e)
 exact .inr ⟨_,by unfold du;rw [if_pos h1];exact e,h4,fun Z hZ=>⟨fun r hr z hz=>by obtain ⟨r2,h7,h8⟩:=h5 z ⟨r,hr,hz⟩;exact hZ r2 h7 z h8,h6 Z hZ⟩⟩
def ig:Nat -> Int -> List Rw -> List Fd -> List Fd -> List St -> List St × (Int × List Rw) × Int
 | 0,_,_,_,_,_=>([],(0,[]),0)
 | f + 1,n,l,p,m,acc =>
  match dz l p m with
  | none=>(acc,(n,l),0)
  | some s=>match du n l p m s with
   | (n',l',e)=>if e = 0 then ig f n' l' p m (acc ++ [s]) else ([],(0,[]),e)
variable {acc:List St}
def ac5 {f:Nat} {n:Int} (hf:0 < f) (h:dz l p m = none):ig f n l p m acc = (acc,(n,l),0):=by
 obtain ⟨g,rfl⟩:∃ g,f = g + 1:=⟨f - 1,by omega⟩;unfold ig;rw [h]
def abu {f:Nat} {n:Int} {s:St} (hf:0 < f) (h:dz l p m = some s) {n' e:Int} {l':List Rw} (h2:du n l p m s = (n',l',e)) (he:¬ e = 0):ig f n l p m acc = ([],(0,[]),e):=by
 obtain ⟨g,rfl⟩:∃ g,f = g + 1:=⟨f - 1,by omega⟩;unfold ig;rw [h];simp only;rw [h2];simp only;rw [if_neg he]
def a16 {f:Nat} {n:Int} {s:St} (hf:0 < f) (h:dz l p m = some s) {n':Int} {l':List Rw} (h2:du n l p m s = (n',l',0)):ig f n l p m acc = ig (f - 1) n' l' p m (acc ++ [s]):=by
 obtain ⟨g,rfl⟩:∃ g,f = g + 1:=⟨f - 1,by omega⟩;rw [Nat.add_sub_cancel]
 conv=>lhs;unfold ig
 rw [h];simp only;rw [h2];simp only;rw [if_pos trivial]
end
end
section
open Go.Proofs
def bbp (n:Int) (l:List Rw) (p m:List Fd) (s:St) (hT:tok n l = true) (hp:p.all (inU n) = true) (h:xg l p m s) :
 a6 bo6 176 [pT n l,pP (fdl p),pP (fdl m),s.pc] (a7 [pT (du n l p m s).1 (du n l p m s).2.1,pI (du n l p m s).2.2]):=by
 obtain ⟨mu,i,a,b⟩:=s;obtain ⟨ha,hb,h | h⟩:=h
 · obtain ⟨h1,h2,h3⟩:=h
   cases h1;exact anw n l p m i a b hT ha hb h2 (bkk.1 hp _ (by rw [bjd,bjc h2];exact bk7 h2))
 obtain ⟨h1,h2,h3⟩:=h;cases h1;exact aqa n l p m i a b hT ha hb h2
abbrev St.c (s:St):Nat -> PV:=fun j=>[.raw (.bool s.1), .raw (.int .i64 (s.2.1:Int)), .raw (.int .i64 (s.2.2.1:Int)), .raw (.int .i64 (s.2.2.2:Int))].getD j .any
abbrev stl (l:List St):PV:=psl 4 St.c l
abbrev ckE (n:Int) (l:List Rw) (p m:List Fd):Int:=if tok n l = true then be n p m else 1
section
variable {l:List Rw} {m p:List Fd} {n:Int}
def aba (h:ckE n l p m = 0):tok n l = true /\ be n p m = 0 /\ p.all (inU n) = true:=by
 unfold ckE at h;by_cases e:tok n l = true
 · rw [if_pos e] at h
   exact ⟨e,h,(ji h).2.2.2.1⟩
 rw [if_neg e] at h;omega
def iz (F:Nat) (n:Int) (l:List Rw) (p m:List Fd):List St × (Int × List Rw) × Int:=if ckE n l p m = 0 then ig F n l p m [] else ([],(0,[]),ckE n l p m)
variable {F:Nat}
def a96 (h:¬ ckE n l p m = 0):iz F n l p m = ([],(0,[]),ckE n l p m):=if_neg h
def uq (h:ckE n l p m = 0):iz F n l p m = ig F n l p m []:=if_pos h
def aps {α:Type} {o:Option α} (h:o.isSome = false):o = none:=by cases o <;> simp_all
def apg {α:Type} {o:Option α} (d:α) (h:o.isSome = true):o = some (o.getD d):=by cases o <;> simp_all
def al5 (l:List Rw):Cov l.flatten l:=fun r hr z hz=>List.mem_flatten.2 ⟨r,hr,hz⟩
structure StI (F:Nat) (n:Int) (l:List Rw) (p m:List Fd) (x:Nat × List Rw × List St):Prop where
 t:tok n x.2.1 = true
 c:Cov l.flatten x.2.1
 u:muC l.flatten x.2.1 < x.1
 b:x.2.2.length + x.1 <= F
 e:ig x.1 n x.2.1 p m x.2.2 = ig F n l p m []
theorem StI.start (hT:tok n l = true) (hF:muC l.flatten l < F):StI F n l p m (F,l,[]):=⟨hT,al5 l,hF,by simp,rfl⟩
variable {x:Nat × List Rw × List St}
theorem StI.next {s:St} (h:StI F n l p m x) (hp:p.all (inU n) = true) (hS:dz x.2.1 p m = some s) (he:(du n x.2.1 p m s).2.2 = 0):
 (du n x.2.1 p m s).1 = n /\ StI F n l p m (x.1 - 1,(du n x.2.1 p m s).2.1,x.2.2 ++ [s]):=by
 have hu:=h.u;have hb:=h.b
 rcases ajr h.t hp (a7q hS) with e | ⟨l',e,h1,h2⟩
 · rw [e] at he;exact absurd he bns
 have hq:=h2 _ h.c;refine ⟨by rw [e], ?_⟩;rw [e];exact ⟨h1,hq.1,by show muC _ l' < _;omega,by simp only [bjj,bkw];omega,by rw [<- h.e,a16 bnl hS e]⟩
theorem StI.fin (h:StI F n l p m x) (hS:dz x.2.1 p m = none):ig F n l p m [] = (x.2.2,(n,x.2.1),0):=by
 have hu:=h.u;rw [<- h.e,ac5 bnl hS]
theorem StI.err {s:St} (h:StI F n l p m x) (hS:dz x.2.1 p m = some s) (he:¬ (du n x.2.1 p m s).2.2 = 0):ig F n l p m [] = ([],(0,[]),(du n x.2.1 p m s).2.2):=by
 have hu:=h.u;rw [<- h.e];exact abu bnl hS rfl he
end
end
section
open Go.Proofs
def b9j (F:Nat) (n:Int) (l:List Rw) (p m:List Fd) (hF:tok n l = true -> muC l.flatten l < F) (hFb:F <= 4000000000):a6 bo6 151 [pT n l,pP (fdl p),pP (fdl m)] (a7 [pP (stl (iz F n l p m).1),pT (iz F n l p m).2.1.1 (iz F n l p m).2.1.2,pI (iz F n l p m).2.2]):=by
 refine hpx (nt:=53) Tryz.func151 ?_;refine sx7 ?_;refine m9 0 ?_;refine qy ?_;refine m9 1 ?_;refine w_8 ?_;refine qcx aed (aab n l p m) ?_;refine w_7 ?_;refine hcn (fun h0=>?_) (fun h0=>?_)
 · refine w_8 ?_;refine hrr ?_;have he:=a96 (F:=F) (n:=n) (l:=l) (p:=p) (m:=m) bnm;exact f9 rfl rfl (by rw [he];exact ⟨CoC.one (CoP.sl rfl (.inr rfl) (fun _=>rfl) (fun i j hi _=>absurd hi (bjh i))),CoC.agg ⟨CoP.refl _,b9,trivial⟩,CoC.refl _,trivial⟩)
 have hck:ckE n l p m = 0:=by assumption
 obtain ⟨hT,hbe,hpa⟩:=aba hck;obtain ⟨hn0,hn16,hl256,hrow⟩:=j2 hT;have hbig:∀ i,i < l.length -> (l.getD i default).length <= 17592186044416:=fun i hi=>by rw [hrow i hi];omega
 refine w_4 ?_;refine qcx aer (ayz n l hbig bnl) ?_;refine w_6 ?_;refine cb 10 900 true 4 129 (lf St.c []) bns rfl (CoP.sl rfl (.inr rfl) (fun h=>h) (fun i j hi _=>absurd hi (bjh i))) (.inr rfl) rfl ?_;refine a3j ?_;refine ae (ι:=Nat × List Rw × List St) (ka 1 (ka 2 (ka 3 (ka 7 kn)))) (kb 1 km) (fun x=>⟨[(10,some (.v (.one (.ref 900 x.2.2.length))))],[(0,some (.box [.p (.raw (.int .i64 n)), .p (rl x.2.1)])),(900,some (.arr true 4 129 x.2.2.length (lf St.c x.2.2)))]⟩) (fun x=>StI F n l p m x) (fun x=>x.1) ((F,l,[])) (StI.start hT (hF hT)) kk ?_;rintro x hX;have hXu:=hX.u;have hXb:=hX.b;refine w_6 ?_;refine qcx (wgx Tryz.func201) (bd4 n x.2.1 p m hX.t) ?_;refine w_3 ?_;refine m9 2 ?_;refine w_9 ?_;refine hcv (fun h1=>?_) (fun h1=>?_)
 · have hS:=aps (by simpa using h1);refine w_9 ?_;refine aq 6 rfl rfl rfl ?_;refine hrr ?_;have he:=(uq hck).trans (hX.fin hS);exact f9 rfl rfl (by rw [he];exact CoL.refl _)
 have hS:=apg (false,0,0,0) (by simpa using h1);refine w_7 ?_;refine qcx adx (bbp n x.2.1 p m ((dz x.2.1 p m).getD (false,0,0,0)) hX.t hpa (a7q hS)) ?_;refine w_3 ?_;refine m9 3 ?_;refine w_9 ?_;refine hcn (fun h2=>?_) (fun h2=>?_)
 · refine w_8 ?_;refine hrr ?_;have he:=(uq hck).trans (hX.err hS bnm);exact f9 rfl rfl (by rw [he];exact ⟨CoC.one (CoP.sl rfl (.inr rfl) (fun _=>rfl) (fun i j hi _=>absurd hi (bjh i))),CoC.agg ⟨CoP.refl _,b9,trivial⟩,CoC.refl _,trivial⟩)
 have hnx:=hX.next hpa hS bnm
 refine w_4 ?_;refine m9 4 ?_;refine r9 5 true ?_;refine w_5 ?_;refine ⟨(x.1 - 1,(du n x.2.1 p m ((dz x.2.1 p m).getD (false,0,0,0))).2.1,x.2.2 ++ [((dz x.2.1 p m).getD (false,0,0,0))]), ?_, ?_, ?_⟩
 · exact hnx.2
 · show x.1 - 1 < x.1
   omega
 exact ⟨⟨⟨_,rfl,(bv rfl)⟩,tt⟩,⟨⟨_,rfl,⟨CoP.of_eq (by rw [hnx.1]),CoH.refl _,trivial⟩⟩,⟨_,rfl,(a83 rfl (fun j hj=>by match j,hj with | 0,_=>exact CoP.refl _ | 1,_=>exact CoP.refl _ | 2,_=>exact CoP.refl _ | 3,_=>exact CoP.refl _) rfl)⟩,uu⟩⟩
end
section
def ami:∀ {l:List Rw},(∀ r,r ∈ l -> r.length <= 16) -> l.flatten.length <= 16 * l.length
 | [],_=>by simp
 | r :: l,h=>by
  have h1:=h r bnp;have h2:=ami (l:=l) fun r hr=>h r (by simp [hr]);simp only [List.flatten_cons,bjj,bk5];omega
abbrev FU:Nat:=1300000
def alo {n:Int} {l:List Rw} (h:tok n l = true):muC l.flatten l < FU:=by
 obtain ⟨h0,h1,h2,h3⟩:=j2 h;have h4:=ami (l:=l) fun r hr=>by have:=(y6 h r hr).1;omega
 have h5:aec l.flatten l <= l.flatten.length:=List.countP_le_length;unfold muC;show _ < 1300000;omega
def b98 {n:Int} {i:Nat} {p:AS} {k a N:Nat} (h:dl p (k:Int) = true) (hN:N = n.toNat) (ha:a = k) :
 CoO (.arr true 1 3 N (en (lf zC (stT n i p k)) a 0 [.raw (.int .i64 (k:Int))])) (.arr true 1 3 N (lf zC (stT n i p (k + 1)))):=by
 subst ha;refine ⟨fun h=>h,rfl,rfl,rfl,fun c j hc hj=>CoP.of_eq ?_⟩;obtain rfl:j = 0:=by omega
 show _ = PV.raw (.int .i64 ((stT n i p (a + 1)).getD c default));rw [aac c bnl];unfold en;by_cases e:c = a
 · rw [if_pos ⟨e,by omega,by simp⟩,if_pos e]
   unfold stV;rw [if_pos h];rfl
 rw [if_neg (fun x=>e x.1),if_neg e];rfl
def ax0 {k:Nat} (h:k < 32):dl (jr 32) (k:Int) = true:=by
 rw [j1 h,o9 32 k h];exact decide_eq_true h
def avq {n:Int} {k:Nat} (h1:n <= 16) (hk:n.toNat <= k):stT n 0 (jr 32) k = d7 n:=by
 rw [ao1 _ _ _ hk];unfold stR d7;refine bls fun c hc=>?_;have:=bjs.1 hc;unfold stV;rw [if_pos (ax0 bnl)]
def ax8 {n:Int} {k:Nat} (h1:n <= 16) (hk:n.toNat <= k):CoC (.one (.sl n.toNat 1 false (lf zC (stT n 0 (jr 32) k)))) (pZ (d7 n)):=by
 rw [avq h1 hk];exact arh (ad0 n)
abbrev a0l (n:Int) (x:Fd):List AS:=[x.lhs ||| x.rhs,x.lhs ||| (a8 n &&& ~~~x.rhs)]
def bij (n:Int) (p m:List Fd) (x:Fd):Bool × Int :=
 if be n p m = 0 then
  if inU n x = true then
   if (ge n (a0l n x)).2.2 = 0 then
    if (iz FU (ge n (a0l n x)).1 (ge n (a0l n x)).2.1 p m).2.2 = 0 then ((iz FU (ge n (a0l n x)).1 (ge n (a0l n x)).2.1 p m).2.1.2.any (fun r=>decide (r = d7 n)),0)
    else (false,(iz FU (ge n (a0l n x)).1 (ge n (a0l n x)).2.1 p m).2.2)
   else (false,(ge n (a0l n x)).2.2)
  else (false,1)
 else (false,be n p m)
end
section
def b8x {r:Rw} {g f:Nat -> Nat -> PV} (hf:∀ i j,f i j = lf zC r i j):CoP (.sl (0 + r.length) 1 false (fe 0 g f)) (zl r) :=
 CoP.sl (bk6 _).symm (.inl rfl) (fun h=>h) fun i j hi hj=>CoP.of_eq (by simp [fe,hf])
def asg {l:List Rw} {i k:Nat} {g f:Nat -> Nat -> PV} {e et:TypeId} (hk:k = (l.getD i default).length) (hf:∀ a b,f a b = lf zC (l.getD i default) a b) :
 CoO (.nest e et 1 (i + 1) (rt (nM l) i k) (ub (mg (ca l)) i (fe 0 g f)) none) (.nest e et 1 (i + 1) (nM l) (mg (ca l)) none):=by
 have e:fe 0 g f = lf zC (l.getD i default):=by funext a b;simp [fe,hf]
 rw [e];exact aga hk rfl
end
section
open Go.Proofs
def ado:goodFn bo6 182:=wgx Tryz.func182
def alp (l:List Rw) (hl:∀ i,i < l.length -> (l.getD i default).length <= 17592186044416) (hl2:l.length <= 5864062014805):d4 bo6 182 [.one (.p (rl l))] [] (.v (.one (.ref 901 l.length))) [(901, .arr true 1 84 l.length (lf rC l))] []:=by
 refine hfx (nt:=21) Tryz.func182 ?_;refine ce ?_;refine c6 0 rfl fun hn=>?_;refine w_7 ?_;refine cb 3 901 true 1 84 (lf rC l) bns rfl (CoP.sl rfl (.inr rfl) (fun h=>h) (fun i j hi _=>absurd hi (bjh i))) (.inr rfl) rfl ?_;refine w_6 ?_;refine bg (ka 0 kn) km (fun i=>⟨[(3,some (.v (.one (.ref 901 i)))),(4,some (vI i))],[(901,some (.arr true 1 84 i (lf rC l)))]⟩) l.length kk ?_;rintro i hi;refine w_8 ?_;refine hcd (fun h0=>?_) (fun h0=>?_)
 · have hli:=hl i bnl;refine w_3 ?_;refine arv [0,1,2,3,4,5,6] [7,8,9] rfl ?_;refine auy (E:=fz) f5 ?_;refine qy ?_;refine m9 0 ?_;refine w_4 ?_;refine r9 1 true ?_;refine c5 ?_;refine bfj ?_;refine au5 17 rfl rfl rfl ?_;refine b6d ?_;refine auy (E:=fz) (L1:=[7,8,9]) (L2:=[]) f5 ?_;refine m9 2 ?_;refine r9 3 true ?_;refine w_2 ?_;refine b9w ?_;refine w_5 ?_;exact lpx (i + 1) ⟨tt,⟨⟨_,rfl,(pw (fun h=>h) (fun j hj=>by obtain rfl:j = 0:=bnl;exact b8x (fun _ _=>rfl)))⟩,trivial⟩⟩
 obtain rfl:i = l.length:=by omega
 refine w_6 ?_;refine hrr ?_;exact ⟨_,_,rfl,bnn,CoR.refl _,uu⟩
def ax7 (l:List Rw) (hl:∀ i,i < l.length -> (l.getD i default).length <= 17592186044416) (hl2:l.length <= 5864062014805):d4 bo6 182 [.one (.p (rl l))] [] (.v (.one (.ref 901 l.length))) [(901, .nest 84 3 1 l.length (nM l) (mg (ca l)) none)] []:=by
 refine hfx (nt:=21) Tryz.func182 ?_;refine ce ?_;refine c6 0 rfl fun hn=>?_;refine w_7 ?_;refine avx 3 901 84 3 1 (nM l) (mg (ca l)) bns rfl rfl ?_;refine w_6 ?_;refine bg (ka 0 kn) km (fun i=>⟨[(3,some (.v (.one (.ref 901 i)))),(4,some (vI i))],[(901,some (.nest 84 3 1 i (nM l) (mg (ca l)) none))]⟩) l.length kk ?_;rintro i hi;refine w_8 ?_;refine hcd (fun h0=>?_) (fun h0=>?_)
 · have hli:=hl i bnl;refine w_5 ?_;refine m9 0 ?_;refine w_4 ?_;refine r9 1 true ?_;refine m9 2 ?_;refine r9 3 true ?_;refine w_2 ?_;refine ag1 901 0 rfl rfl ?_;refine w_5 ?_;exact lpx (i + 1) ⟨tt,⟨⟨_,rfl,(asg (bk6 _) (fun _ _=>rfl))⟩,trivial⟩⟩
 obtain rfl:i = l.length:=by omega
 refine w_6 ?_;refine hrr ?_;exact ⟨_,_,rfl,bnn,CoR.refl _,uu⟩
end
section
def ato {s:AS} {n:Nat} (hn:n <= 32) (h:∀ j,j ∈ aj s -> j < n):eq s n = aj s:=by
 have h2:∀ d,n + d <= 32 -> eq s (n + d) = eq s n:=by
  intro d
  induction d with
  | zero=>intro _;rfl
  | succ d ih =>
   intro hd
   have hf:dl s ((n + d:Nat):Int) = false:=by
    rw [j1 bnl,bjp];intro e;have:=h _ (jc.2 ⟨by omega,e⟩);omega
   rw [<- ih bnl];exact t7 (i:=n + d) (show n + d < 32 by omega) hf
 have:=h2 (32 - n) bnl;rw [<- this,show n + (32 - n) = 32 by omega];rfl
def sm {M:Nat -> Nat -> Int} {a b j:Nat} {js:List Nat}:eqMs M a b (js ++ [j]) = eqM (eqMs M a b js) a b j:=by
 unfold eqMs;rw [bki];rfl
def axk {l:List Rw} {M:Nat -> Nat -> Int} {n:Nat} (hn:n = l.length):CoP (.sl n 1 false (zx 1 (nM l) (mg M))) (rl (dv l M)):=by
 obtain ⟨_,_,_,h1,h2⟩:=aq2 (l:=l) (M:=M) (e:=25) hn;exact CoP.sl h1 (.inl rfl) (fun h=>h) h2
end
end Go.Hx

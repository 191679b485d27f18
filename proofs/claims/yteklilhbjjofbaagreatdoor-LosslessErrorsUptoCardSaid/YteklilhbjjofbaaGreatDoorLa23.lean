/- A part of the proof: X12 Ch9 X13 Ch10 X14 Ch11 Ch12 Ch13 X15 Ch14 Ch17 X20 Ch18. -/
import Derived.Test.YteklilhbjjofbaaGreatDoorLa22
set_option linter.all false
set_option maxRecDepth 100000
set_option maxHeartbeats 1000000
namespace Go.Hx
section
open Go.Proofs
def atg (n:Int) (l:List Rw) (p m:List Fd) (hT:tok n l = true):a8 b6e 126 [pT n l,pP (fdl p),pP (fdl m)] (aa [St.pc ((cw l p m).getD (false,0,0,0)),pB (cw l p m).isSome]):=by
 refine hpx (nt:=132) Tryz.func126 ?_;refine c0 ?_;obtain ⟨hn0,hn16,hl256,hrow⟩:=eu hT;refine c5 1 rfl fun hn1=>?_;refine c5 2 rfl fun hn2=>?_;refine gy ?_;refine m9 0 ?_;refine m9 1 ?_;refine dh ?_;refine ak (ι:=Nat) (ka 2 (ka 3 (ka 6 (ka 16 (ka 17 kn))))) (kb 0 (kb 1 km)) (fun i=>⟨[(18,some (vI i))],[]⟩) (fun i=>i <= p.length /\ (∀ i',i' < i -> ∀ a',a' < l.length -> ∀ b',b' < l.length -> d6 l (p.getD i' default) a' b' = false)) (fun i=>p.length - i) (0) (⟨b2z _,b9⟩) kk ?_;rintro i ⟨hi,hI⟩;refine w_5 ?_;refine hcd (fun h0=>?_) (fun h0=>?_)
 ·
  refine w_8 ?_;refine m9 2 ?_;refine dq ?_;refine ak (ι:=Nat) (ka 2 (ka 3 (ka 6 (ka 8 (ka 9 (ka 16 (ka 17 (ka 18 (ka 25 kn))))))))) (kb 0 (kb 1 (kb 2 km))) (fun a=>⟨[(26,some (vI a))],[]⟩) (fun a=>a <= l.length /\ (∀ a',a' < a -> ∀ b',b' < l.length -> d6 l (p.getD i default) a' b' = false)) (fun a=>l.length - a) (0) (⟨b2z _,b9⟩) kk ?_;rintro a ⟨ha,hA⟩;refine w_5 ?_;refine hcd (fun h1=>?_) (fun h1=>?_)
  ·
   refine mj ?_;refine ak (ι:=Nat) (ka 2 (ka 3 (ka 6 (ka 8 (ka 9 (ka 10 (ka 16 (ka 17 (ka 18 (ka 25 (ka 26 (ka 31 kn)))))))))))) (kb 0 (kb 1 (kb 2 km))) (fun b=>⟨[(32,some (vI b))],[]⟩) (fun b=>b <= l.length /\ (∀ b',b' < b -> d6 l (p.getD i default) a b' = false)) (fun b=>l.length - b) (0) (⟨b2z _,b9⟩) kk ?_;rintro b ⟨hb,hB⟩;refine w_5 ?_;refine hcd (fun h2=>?_) (fun h2=>?_)
   ·
    refine agf ?_;refine qcx vq (a01 (l.getD a default) (l.getD b default) (p.getD i default).lhs (by rw [hrow _ b5o,hrow _ b5o]) (by rw [hrow _ b5o];omega)) ?_;refine qy ?_;refine ag rfl rfl (fun r3=>?_) (fun r3=>?_)
    ·
     have h3:=r3;(iterate 12 refine qy ?_ (hg:=(gtt r3)));refine qcx vq (a01 (l.getD a default) (l.getD b default) (p.getD i default).rhs (by rw [hrow _ b5o,hrow _ b5o]) (by rw [hrow _ b5o];omega)) ?_ (hg:=(gtt r3));refine qy ?_ (hg:=(gtt r3));refine w_3 ?_;refine ai _ rfl (fun r4=>?_) (fun r4=>?_)
     · have h4:=cz (ci r3 r4);refine w_9 ?_;refine hrr ?_;have he:=arz (m:=m) (vm (P:=fun i a b=>d6 l (p.getD i default) a b) (i:=i) (a:=a) (b:=b) b5o b5o b5o (asg b5p b5p) hI hA hB);exact f9 rfl rfl (by rw [he];exact CoL.refl _)
     have h4:=cu (ci r3 r4);refine w_5 ?_;refine lpz (b + 1) kk ?_;exact ⟨by show b + 1 <= _;omega,ay hB (by first | exact x5 b5p | exact a36 b5p)⟩
    have h3:=r3;(iterate 14 refine k9 (gft r3) ?_);refine w_9 ?_;refine lpz (b + 1) kk ?_
    exact ⟨by show b + 1 <= _;omega,ay hB (by first | exact x5 b5p | exact a36 b5p)⟩
   refine w_5 ?_;refine lpz (a + 1) kk ?_;exact ⟨by show a + 1 <= _;omega,ay hA (fun b' hb'=>hB b' b5o)⟩
  refine w_5 ?_;refine lpz (i + 1) kk ?_;exact ⟨by show i + 1 <= _;omega,ay hI (fun a' ha'=>hA a' b5o)⟩
 obtain rfl:i = p.length:=by omega
 have hno:=v6 (P:=fun i a b=>d6 l (p.getD i default) a b) (I:=p.length) (L:=l.length) hI;refine w_9 ?_;refine ak (ι:=Nat) (ka 3 (ka 6 (ka 71 (ka 72 kn)))) (kb 0 (kb 1 km)) (fun k=>⟨[(73,some (vI k))],[]⟩) (fun k=>k <= m.length /\ (∀ i',i' < k -> ∀ a',a' < l.length -> ∀ b',b' < l.length -> db l (m.getD i' default) a' b' = false)) (fun k=>m.length - k) (0) (⟨b2z _,b9⟩) kk ?_;rintro k ⟨hk,hK⟩;refine w_5 ?_;refine hcd (fun h5=>?_) (fun h5=>?_)
 ·
  refine w_8 ?_;refine m9 3 ?_;refine dq ?_;refine ak (ι:=Nat) (ka 3 (ka 6 (ka 12 (ka 13 (ka 71 (ka 72 (ka 73 (ka 80 kn)))))))) (kb 0 (kb 1 (kb 3 km))) (fun c=>⟨[(81,some (vI c))],[]⟩) (fun c=>c <= l.length /\ (∀ a',a' < c -> ∀ b',b' < l.length -> db l (m.getD k default) a' b' = false)) (fun c=>l.length - c) (0) (⟨b2z _,b9⟩) kk ?_;rintro c ⟨hc,hC⟩;refine w_5 ?_;refine hcd (fun h6=>?_) (fun h6=>?_)
  ·
   refine mj ?_;refine ak (ι:=Nat) (ka 3 (ka 6 (ka 12 (ka 13 (ka 14 (ka 71 (ka 72 (ka 73 (ka 80 (ka 81 (ka 86 kn))))))))))) (kb 0 (kb 1 (kb 3 km))) (fun d=>⟨[(87,some (vI d))],[]⟩) (fun d=>d <= l.length /\ (∀ b',b' < d -> db l (m.getD k default) c b' = false)) (fun d=>l.length - d) (0) (⟨b2z _,b9⟩) kk ?_;rintro d ⟨hd,hD⟩;refine w_5 ?_;refine hcd (fun h7=>?_) (fun h7=>?_)
   ·
    refine agf ?_;refine qcx vq (a01 (l.getD c default) (l.getD d default) (m.getD k default).lhs (by rw [hrow _ b5o,hrow _ b5o]) (by rw [hrow _ b5o];omega)) ?_;refine qy ?_;refine ag rfl rfl (fun r8=>?_) (fun r8=>?_)
    ·
     have h8:=r8;(iterate 16 refine qy ?_ (hg:=(gtt r8)));refine rc rfl rfl rfl rfl rfl rfl (wgx Tryz.func132) (aib (l.getD c default) (l.getD d default) ((m.getD k default).lhs ||| (m.getD k default).rhs) (by rw [hrow _ b5o,hrow _ b5o]) (by rw [hrow _ b5o];omega)) (⟨CoC.refl _,CoC.refl _,cci (by rw [bOr];rfl),trivial⟩) rfl (gtt r8) ?_;refine qcx zr (a3x n l (cj (l.getD c default) (l.getD d default) ((m.getD k default).lhs ||| (m.getD k default).rhs))) ?_ (hg:=(gtt r8));refine qy ?_ (hg:=(gtt r8));refine w_3 ?_;refine ai _ rfl (fun r9=>?_) (fun r9=>?_)
     · have h9:=cz (ci r8 r9);refine w_9 ?_;refine hrr ?_;have he:=as4 hno (vm (P:=fun i a b=>db l (m.getD i default) a b) (i:=k) (a:=c) (b:=d) b5o b5o b5o (api b5p b5p) hK hC hD);exact f9 rfl rfl (by rw [he];exact CoL.refl _)
     have h9:=cu (ci r8 r9);refine w_5 ?_;refine lpz (d + 1) kk ?_;exact ⟨by show d + 1 <= _;omega,ay hD (by first | exact acz b5p | exact a2g b5p)⟩
    have h8:=r8;(iterate 19 refine k9 (gft r8) ?_);refine w_9 ?_;refine lpz (d + 1) kk ?_
    exact ⟨by show d + 1 <= _;omega,ay hD (by first | exact acz b5p | exact a2g b5p)⟩
   refine w_5 ?_;refine lpz (c + 1) kk ?_;exact ⟨by show c + 1 <= _;omega,ay hC (fun b' hb'=>hD b' b5o)⟩
  refine w_5 ?_;refine lpz (k + 1) kk ?_;exact ⟨by show k + 1 <= _;omega,ay hK (fun a' ha'=>hC a' b5o)⟩
 refine w_7 ?_;refine hrr ?_;have he:=apk hno (v6 (P:=fun i a b=>db l (m.getD i default) a b) (I:=m.length) (L:=l.length) fun j hj=>hK j b5o);exact f9 rfl rfl (by rw [he];exact CoL.refl _)
end
section
def stV (n:Int) (i:Nat) (p:AS) (c:Nat):Int:=if bc p (c:Int) = true then (c:Int) else n + (i:Int) * n + (c:Int)
def stT (n:Int) (i:Nat) (p:AS) (k:Nat):Rw:=(List.range n.toNat).map fun c=>if c < k then stV n i p c else 0
def stR (n:Int) (i:Nat) (p:AS):Rw:=(List.range n.toNat).map fun c=>stV n i p c
def ah (n:Int) (ps:List AS):List Rw:=(List.range ps.length).map fun i=>stR n i (ps.getD i default)
def oq (n:Int) (i:Nat) (p:AS):(stR n i p).length = n.toNat:=by unfold stR;simp
def lc (n:Int) (ps:List AS):(ah n ps).length = ps.length:=by unfold ah;simp
section
variable {i:Nat} {n:Int} {ps:List AS}
def a8n (h:i < ps.length):(ah n ps).getD i default = stR n i (ps.getD i default):=by
 unfold ah;rw [b2t,b39,b3v h];rfl
variable {k:Nat}
def afr (n:Int) (i:Nat) (p:AS) (h:n.toNat <= k):stT n i p k = stR n i p:=by
 unfold stT stR;refine b4g fun c hc=>?_;have:=b3i.1 hc;rw [if_pos b5o]
variable {p:AS}
def aai {c:Nat} (h:c < n.toNat):(stT n i p k).getD c default = if c < k then stV n i p c else 0:=by
 unfold stT;rw [b2t,b39,b3v h];rfl
def aat {N:Nat} {f:Nat -> Nat -> PV} (hN:N = n.toNat) (hf:∀ a,f a 0 = .raw (.int .i64 0)):CoO (.arr true 1 3 N f) (.arr true 1 3 N (lf zC (stT n i p 0))) :=
 ⟨fun h=>h,rfl,rfl,rfl,fun a j ha hj=>by
  obtain rfl:j = 0:=by omega
  refine CoP.of_eq ?_;rw [hf];show _ = PV.raw (.int .i64 ((stT n i p 0).getD a default))
  rw [aai b5o,if_neg b5o]⟩
def a2w:∀ c,c < n.toNat -> (stT n i p (k + 1)).getD c default = if c = k then stV n i p k else (stT n i p k).getD c default:=fun c hc=>by
 rw [aai hc,aai hc];by_cases h:c = k
 · rw [if_pos h,if_pos b5o,h]
 rw [if_neg h];by_cases h2:c < k
 · rw [if_pos h2,if_pos b5o]
 rw [if_neg h2,if_neg b5o]
def aiw {a b N:Nat} {x:Int} (h:bc p (k:Int) = true) (hN:N = n.toNat) (ha:a = k) (hb:b = k):
 CoO (.arr true 1 3 N (dx (dx (lf zC (stT n i p k)) a 0 [.raw (.int .i64 x)]) b 0 [.raw (.int .i64 (k:Int))])) (.arr true 1 3 N (lf zC (stT n i p (k + 1)))):=by
 subst ha hb;refine ⟨fun h=>h,rfl,rfl,rfl,fun c j hc hj=>CoP.of_eq ?_⟩;obtain rfl:j = 0:=by omega
 show _ = PV.raw (.int .i64 ((stT n i p (b + 1)).getD c default));rw [a2w c b5o];unfold dx;by_cases e:c = b
 · rw [if_pos ⟨e,by omega,by simp⟩,if_pos e]
   unfold stV;rw [if_pos h];rfl
 rw [if_neg (fun x=>e x.1),if_neg (fun x=>e x.1),if_neg e];rfl
def ajg {a N:Nat} (h:¬ bc p (k:Int) = true) (hN:N = n.toNat) (ha:a = k):
 CoO (.arr true 1 3 N (dx (lf zC (stT n i p k)) a 0 [.raw (.int .i64 (n + (i:Int) * n + (k:Int)))])) (.arr true 1 3 N (lf zC (stT n i p (k + 1)))):=by
 subst ha;refine ⟨fun h=>h,rfl,rfl,rfl,fun c j hc hj=>CoP.of_eq ?_⟩;obtain rfl:j = 0:=by omega
 show _ = PV.raw (.int .i64 ((stT n i p (a + 1)).getD c default));rw [a2w c b5o];unfold dx;by_cases e:c = a
 · rw [if_pos ⟨e,by omega,by simp⟩,if_pos e]
   unfold stV;rw [if_neg h];rfl
 rw [if_neg (fun x=>e x.1),if_neg e];rfl
def aoo {s:AS}:(asI s).fdiv (2 ^ (min n.toNat 32)) = 0 <-> s >>> n.toNat = 0:=by
 rw [amu,show (0:Int) = asI 0 from rfl,i7]
def atn (h0:0 <= n) (h1:n <= 16) (hi:i <= 64):0 <= (i:Int) * n /\ (i:Int) * n <= 1024:=by
 refine ⟨Int.mul_nonneg b5o h0, ?_⟩;have h2:(i:Int) * n <= (i:Int) * 16:=Int.mul_le_mul_of_nonneg_left h1 b5o;omega
def dz (n:Int) (ps:List AS):Int × List Rw × Int :=
 if n < 0 \/ 16 < n then (0,[],7) else if 64 < ps.length then (0,[],3) else if ps.all (fun p=>decide (p >>> n.toNat = 0)) = true then (n,ae (ah n ps),0) else (0,[],1)
def ya (h:n < 0 \/ 16 < n):dz n ps = (0,[],7):=if_pos h
def acf (h:¬ (n < 0 \/ 16 < n)) (h2:64 < ps.length):dz n ps = (0,[],3):=by unfold dz;rw [if_neg h,if_pos h2]
def acg (h:¬ (n < 0 \/ 16 < n)) (h2:¬ 64 < ps.length) (hi:i < ps.length) (h3:¬ (ps.getD i default) >>> n.toNat = 0):dz n ps = (0,[],1):=by
 unfold dz;rw [if_neg h,if_neg h2,if_neg (fun e=>absurd (a5g (l:=ps) (p:=fun p:AS=>decide (p >>> n.toNat = 0)) hi (decide_eq_false h3)) (by rw [e];decide))]
def a28 (h:¬ (n < 0 \/ 16 < n)) (h2:¬ 64 < ps.length) (h3:∀ j,j < ps.length -> (ps.getD j default) >>> n.toNat = 0):dz n ps = (n,ae (ah n ps),0):=by
 unfold dz;rw [if_neg h,if_neg h2,if_pos (a95 (l:=ps) (p:=fun p:AS=>decide (p >>> n.toNat = 0)) fun j hj=>decide_eq_true (h3 j hj))]
def ant (hi:i < ps.length) (hk:n.toNat <= k):CoP (.sl n.toNat 1 false (lf zC (stT n i (ps.getD i default) k))) (lf rC (ah n ps) i 0):=by
 show CoP _ (zl ((ah n ps).getD i default));rw [a8n hi,afr n i _ hk];exact CoP.sl (oq _ _ _) (.inl rfl) (fun h=>h) fun a j ha hj=>CoP.refl _
end
end
section
open Go.Proofs
def avp (n:Int) (ps:List AS):a8 b6e 53 [pI n,pP (asl ps)] (aa [pT (dz n ps).1 (dz n ps).2.1,pI (dz n ps).2.2]):=by
 refine hpx (nt:=73) Tryz.func53 ?_;refine sx7 ?_;refine m9 0 ?_;refine w_9 ?_;refine ag rfl rfl (fun r0=>?_) (fun r0=>?_)
 ·
  have h0:=tz1 r0;(iterate 2 refine k9 (gtf r0) ?_);refine dh ?_;refine hrr ?_
  have he:=ya (n:=n) (ps:=ps) b5o;exact f9 rfl rfl (by rw [he];exact ⟨CoC.agg ⟨CoP.refl _,au,trivial⟩,CoC.refl _,trivial⟩)
 have h0:=tz2 r0;(iterate 2 refine qy ?_ (hg:=(gff r0)));refine w_3 ?_;refine ai _ rfl (fun r1=>?_) (fun r1=>?_)
 · have h1:=tz1 (af r0 r1);refine w_6 ?_;refine hrr ?_;have he:=ya (n:=n) (ps:=ps) b5o;exact f9 rfl rfl (by rw [he];exact ⟨CoC.agg ⟨CoP.refl _,au,trivial⟩,CoC.refl _,trivial⟩)
 have h1:=tz2 (af r0 r1);refine w_7 ?_;refine hcd (fun h2=>?_) (fun h2=>?_)
 · refine w_6 ?_;refine hrr ?_;have he:=acf (n:=n) (ps:=ps) b5o b5o;exact f9 rfl rfl (by rw [he];exact ⟨CoC.agg ⟨CoP.refl _,au,trivial⟩,CoC.refl _,trivial⟩)
 refine w_5 ?_;refine m9 1 ?_;refine w_2 ?_;refine eo 1 1 900 true 1 97 (lf rC (ah n ps)) b5t rfl rfl (CoP.sl rfl (.inr rfl) (fun h=>h) (fun i j hi _=>absurd hi (b2y i))) (.inr rfl) rfl rfl ?_;refine w_8 ?_;refine ak (ι:=Nat) (ka 0 (ka 4 (ka 6 (ka 26 (ka 27 kn))))) (kb 0 km) (fun i=>⟨[(28,some (vI i))],[(1,some (.box [.p (.raw (.int .i64 n)), .ref 900 i])),(900,some (.arr true 1 97 i (lf rC (ah n ps))))]⟩) (fun i=>i <= ps.length /\ ∀ j,j < i -> (ps.getD j default) >>> n.toNat = 0) (fun i=>ps.length - i) (0) (⟨b2z _,b9⟩) kk ?_;rintro i ⟨hi,hI⟩;refine w_5 ?_;refine hcd (fun h3=>?_) (fun h3=>?_)
 ·
  have hin:=atn (n:=n) (i:=i) b5o b5o b5o;refine a6i ?_;refine hcn (fun h4=>?_) (fun h4=>?_)
  · refine w_6 ?_;refine hrr ?_;have he:=acg (n:=n) (ps:=ps) (i:=i) b5o b5o b5o (fun e=>absurd (aoo.2 e) b5p);exact f9 rfl rfl (by rw [he];exact ⟨CoC.agg ⟨CoP.refl _,au,trivial⟩,CoC.refl _,trivial⟩)
  refine w_4 ?_;refine m9 2 ?_;refine w_9 ?_;refine bw (ka 0 (ka 4 (ka 6 (ka 7 (ka 8 (ka 9 (ka 26 (ka 27 (ka 28 (ka 40 kn)))))))))) (kb 1 (kb 900 (kb 0 km))) (fun k=>⟨[(41,some (vI k))],[(2,some (.arr true 1 3 n.toNat (lf zC (stT n i (ps.getD i default) k))))]⟩) n.toNat ⟨tt,⟨⟨_,rfl,(aat rfl (fun _=>rfl))⟩,trivial⟩⟩ ?_;rintro k hk;refine w_5 ?_;refine hcd (fun h5=>?_) (fun h5=>?_)
  ·
   refine az1 ?_;refine hcd (fun h6=>?_) (fun h6=>?_)
   · refine dq ?_;exact lpx (k + 1) ⟨tt,⟨⟨_,rfl,(by first | exact aiw ((l4 b5o).1 b5p) rfl b5o b5o | exact ajg (fun e=>absurd ((l4 b5o).2 e) b5p) rfl b5o)⟩,uu⟩⟩
   refine w_5 ?_;exact lpx (k + 1) ⟨tt,⟨⟨_,rfl,(by first | exact aiw ((l4 b5o).1 b5p) rfl b5o b5o | exact ajg (fun e=>absurd ((l4 b5o).2 e) b5p) rfl b5o)⟩,uu⟩⟩
  refine cr ?_;refine bf 9 rfl rfl rfl ?_;refine w_4 ?_;refine m9 3 ?_;refine r9 4 true ?_;refine w_7 ?_;refine lpz (i + 1) ⟨tt,⟨u9,⟨_,rfl,(fq (fun h=>h) (fun j hj=>by obtain rfl:j = 0:=b5o;exact ant b5o b5o))⟩,uu⟩⟩ ?_;exact ⟨by show i + 1 <= _;omega,ay hI (aoo.1 b5p)⟩
 obtain rfl:i = ps.length:=by omega
 refine w_4 ?_;refine iq rfl rfl rfl rfl rfl rfl a9l ((a62 n (ah n ps) (by rw [lc];omega))) (⟨⟨CoP.refl _,congrArg (HV.ref 900) (lc _ _).symm,trivial⟩,trivial⟩) ⟨⟨_,rfl,wj rfl (lc _ _).symm⟩,trivial⟩ rfl rfl ?_;refine w_3 ?_;refine hrr ?_;have he:=a28 (n:=n) (ps:=ps) b5o b5o (fun j hj=>hI j b5o);exact f9 rfl rfl (by rw [he];exact CoL.refl _)
end
section
def bg (n:Int):Rw:=(List.range n.toNat).map fun (i:Nat)=>(i:Int)
def qw (n:Int):(bg n).length = n.toNat:=by unfold bg;simp
section
variable {k:Nat} {n:Int}
def ana (h:k < n.toNat):CoP (.raw (.int .i64 (k:Int))) (lf zC (bg n) k 0):=by
 refine CoP.of_eq ?_;show _ = PV.raw (.int .i64 ((bg n).getD k default));unfold bg;rw [b2t,b39,b3v h];rfl
def wu {i:Nat} {p:AS} (h:k < n.toNat):(stR n i p).getD k default = stV n i p k:=by
 unfold stR;rw [b2t,b39,b3v h];rfl
def aeg {i:Nat} {p:AS} (h:k < n.toNat) (hh:bc p (k:Int) = true):CoP (.raw (.int .i64 (k:Int))) (lf zC (stR n i p) k 0):=by
 refine CoP.of_eq ?_;show _ = PV.raw (.int .i64 ((stR n i p).getD k default));rw [wu h];unfold stV;rw [if_pos hh]
def aej {i:Nat} {p:AS} (h:k < n.toNat) (hh:bc p (k:Int) = false):CoP (.raw (.int .i64 (n + (i:Int) * n + (k:Int)))) (lf zC (stR n i p) k 0):=by
 refine CoP.of_eq ?_;show _ = PV.raw (.int .i64 ((stR n i p).getD k default));rw [wu h];unfold stV;rw [hh,if_neg b5t]
def aku {ps:List AS} {i:Nat} (hi:i < ps.length) (hk:k = n.toNat):CoP (.sl k 1 false (lf zC (stR n i (ps.getD i default)))) (lf rC (ah n ps) i 0):=by
 show CoP _ (zl ((ah n ps).getD i default));rw [a8n hi];exact CoP.sl (by rw [oq,hk]) (.inl rfl) (fun h=>h) fun a j ha hj=>CoP.refl _
def ah9 {s:AS} (h0:0 <= n) (h1:n <= 16):sub s (ax n) <-> s >>> n.toNat = 0:=by
 unfold ax;rw [b48 b5o];exact xa b5o
def a15 (l:List Rw) (x:Fd) (a b:Nat):Bool:=gq (l.getD a default) (l.getD b default) x.lhs && !(l.any fun r=>decide (r = cj (l.getD a default) (l.getD b default) x.rhs))
def acm {a b:Rw} {s:AS} {g:Nat -> Nat -> PV} {f:Nat -> Nat -> PV} {e:TypeId} (hf:∀ i j,f i j = lf zC b i j):CoO (.arr true 1 e (0 + b.length) (cq 0 g f)) (.arr true 1 e (0 + b.length) (lf zC (iw a b s 0))):=by
 rw [<- a8l];exact ⟨fun h=>h,rfl,rfl,rfl,fun i j _ _=>CoP.of_eq (by simp [cq,hf])⟩
def afh {a b:Rw} {s:AS} {m:Nat} (hk:k = b.length) (hm:m = b.length):CoC (.one (.sl m 1 false (lf zC (iw a b s k)))) (pZ (cj a b s)):=by
 subst hk;rw [abf];exact agi ((j2 a b s).trans hm.symm)
end
end
section
open Go.Proofs
def aw9 (n:Int) (h16:n <= 16):a8 b6e 51 [pI n] (aa [pZ (bg n)]):=by
 refine hpx (nt:=15) Tryz.func51 ?_;refine w_8 ?_;refine dn 3 900 true 1 3 (lf zC (bg n)) b5t rfl (CoP.sl rfl (.inr rfl) (fun h=>h) (fun i j hi _=>absurd hi (b2y i))) (.inr rfl) rfl ?_;refine w_6 ?_;refine bw (ka 0 kn) km (fun i=>⟨[(3,some (.v (.one (.ref 900 i)))),(4,some (vI i))],[(900,some (.arr true 1 3 i (lf zC (bg n))))]⟩) n.toNat kk ?_;rintro i hi;refine w_7 ?_;refine hcd (fun h0=>?_) (fun h0=>?_)
 · refine w_6 ?_;refine m9 0 ?_;refine r9 1 true ?_;refine w_7 ?_;exact lpx (i + 1) ⟨tt,⟨⟨_,rfl,(fq (fun h=>h) (fun j hj=>by obtain rfl:j = 0:=b5o;exact ana b5o))⟩,trivial⟩⟩
 refine w_2 ?_;refine bf 3 rfl rfl rfl ?_;refine v_4 ?_;exact ⟨CoC.one (CoP.sl (by rw [qw];omega) (.inl rfl) (fun h=>h) fun a j ha hj=>CoP.refl _),trivial⟩
def apn (n:Int) (ps:List AS):a8 b6e 84 [pI n,pP (asl ps)] (aa [pT (dz n ps).1 (dz n ps).2.1,pI (dz n ps).2.2]):=by
 refine hpx (nt:=68) Tryz.func84 ?_;refine sx7 ?_;refine m9 0 ?_;refine w_8 ?_;refine ag rfl rfl (fun r0=>?_) (fun r0=>?_)
 ·
  have h0:=tz1 r0;(iterate 2 refine k9 (gtf r0) ?_);refine w_9 ?_;refine hrr ?_
  have he:=ya (n:=n) (ps:=ps) b5o;exact f9 rfl rfl (by rw [he];exact ⟨CoC.agg ⟨CoP.refl _,au,trivial⟩,CoC.refl _,trivial⟩)
 have h0:=tz2 r0;(iterate 2 refine qy ?_ (hg:=(gff r0)));refine w_2 ?_;refine ai _ rfl (fun r1=>?_) (fun r1=>?_)
 · have h1:=tz1 (af r0 r1);refine w_6 ?_;refine hrr ?_;have he:=ya (n:=n) (ps:=ps) b5o;exact f9 rfl rfl (by rw [he];exact ⟨CoC.agg ⟨CoP.refl _,au,trivial⟩,CoC.refl _,trivial⟩)
 have h1:=tz2 (af r0 r1);refine w_8 ?_;refine hcd (fun h2=>?_) (fun h2=>?_)
 · refine w_6 ?_;refine hrr ?_;have he:=acf (n:=n) (ps:=ps) b5o b5o;exact f9 rfl rfl (by rw [he];exact ⟨CoC.agg ⟨CoP.refl _,au,trivial⟩,CoC.refl _,trivial⟩)
 refine w_5 ?_;refine dn 6 900 true 1 97 (lf rC (ah n ps)) b5t rfl (CoP.sl rfl (.inr rfl) (fun h=>h) (fun i j hi _=>absurd hi (b2y i))) (.inr rfl) rfl ?_;refine w_6 ?_;refine ak (ι:=Nat) (ka 0 (ka 1 (ka 4 kn))) (kb 0 km) (fun i=>⟨[(6,some (.v (.one (.ref 900 i)))),(7,some (vI i))],[(900,some (.arr true 1 97 i (lf rC (ah n ps))))]⟩) (fun i=>i <= ps.length /\ ∀ j,j < i -> (ps.getD j default) >>> n.toNat = 0) (fun i=>ps.length - i) (0) (⟨b2z _,b9⟩) kk ?_;rintro i ⟨hi,hI⟩;refine w_8 ?_;refine hcd (fun h3=>?_) (fun h3=>?_)
 ·
  have hin:=atn (n:=n) (i:=i) b5o b5o b5o;refine dq ?_;refine qcx lr (lv n) ?_;refine qcx t7 (xb _ _) ?_;refine w_3 ?_;refine hcv (fun h4=>?_) (fun h4=>?_)
  · refine w_6 ?_;refine hrr ?_;have he:=acg (n:=n) (ps:=ps) (i:=i) b5o b5o b5o (fun e=>by have:=(ah9 (n:=n) b5o b5o).2 e;simp_all);exact f9 rfl rfl (by rw [he];exact ⟨CoC.agg ⟨CoP.refl _,au,trivial⟩,CoC.refl _,trivial⟩)
  refine w_5 ?_;refine dn 8 901 true 1 3 (lf zC (stR n i (ps.getD i default))) b5t rfl (CoP.sl rfl (.inr rfl) (fun h=>h) (fun i j hi _=>absurd hi (b2y i))) (.inr rfl) rfl ?_;refine w_6 ?_;refine bw (ka 0 (ka 1 (ka 4 (ka 6 (ka 7 kn))))) (kb 900 (kb 0 km)) (fun k=>⟨[(8,some (.v (.one (.ref 901 k)))),(9,some (vI k))],[(901,some (.arr true 1 3 k (lf zC (stR n i (ps.getD i default)))))]⟩) n.toNat kk ?_;rintro k hk;refine w_7 ?_;refine hcd (fun h5=>?_) (fun h5=>?_)
  ·
   refine dh ?_;refine qcx wl (a9w (ps.getD i default) (k:Int)) ?_;refine bm ?_;refine hcb (fun h6=>?_) (fun h6=>?_)
   · refine w_3 ?_;refine m9 1 ?_;refine r9 2 true ?_;refine w_7 ?_;exact lpx (k + 1) ⟨tt,⟨⟨_,rfl,(by first | exact (fq (fun h=>h) (fun j hj=>by obtain rfl:j = 0:=b5o;exact aeg b5o b5p)) | exact (fq (fun h=>h) (fun j hj=>by obtain rfl:j = 0:=b5o;exact aej b5o b5p)))⟩,uu⟩⟩
   refine w_9 ?_;refine m9 3 ?_;refine r9 4 true ?_;refine w_7 ?_;exact lpx (k + 1) ⟨tt,⟨⟨_,rfl,(by first | exact (fq (fun h=>h) (fun j hj=>by obtain rfl:j = 0:=b5o;exact aeg b5o b5p)) | exact (fq (fun h=>h) (fun j hj=>by obtain rfl:j = 0:=b5o;exact aej b5o b5p)))⟩,uu⟩⟩
  refine cr ?_;refine bf 8 rfl rfl rfl ?_;refine w_3 ?_;refine m9 5 ?_;refine r9 6 true ?_;refine w_7 ?_;refine lpz (i + 1) ⟨tt,⟨⟨_,rfl,(fq (fun h=>h) (fun j hj=>by obtain rfl:j = 0:=b5o;exact aku b5o b5o))⟩,uu⟩⟩ ?_;exact ⟨by show i + 1 <= _;omega,ay hI ((ah9 b5o b5o).1 (by first | assumption | exact av7 b5p))⟩
 obtain rfl:i = ps.length:=by omega
 refine w_2 ?_;refine bf 6 rfl rfl rfl ?_;refine w_3 ?_;refine rc rfl rfl rfl rfl rfl rfl a6f (a2b n (ah n ps) (by rw [lc];omega)) (⟨CoC.refl _,CoC.one (CoP.sl (by rw [lc]) (.inl rfl) (fun h=>h) fun a j ha hj=>CoP.refl _),trivial⟩) rfl rfl ?_;refine w_3 ?_;refine hrr ?_;have he:=a28 (n:=n) (ps:=ps) b5o b5o (fun j hj=>hI j b5o);exact f9 rfl rfl (by rw [he];exact CoL.refl _)
end
section
def Wel (n:Int) (l:List Rw):Prop:=∀ r,r ∈ l -> r.length = n.toNat /\ ∀ z,z ∈ r -> 0 <= z
section
variable {l:List Rw}
def wt {i:Nat} (h:i < l.length):l.getD i default ∈ l:=by
 rw [b2t,b2s h];exact b38 h
def lb {n:Int} (h:tok n l = true):Wel n l:=by
 obtain ⟨h0,h1,h2,h3⟩:=eu h;unfold tok at h;rw [b30,decide_eq_true_iff,decide_eq_true_iff] at h;rintro r hr;obtain ⟨i,hi,rfl⟩:=b3u hr;have e:l.getD i default = l[i]:=by rw [b2t,b2s hi];rfl
 rw [<- e];refine ⟨h3 i hi,fun z hz=>?_⟩;have:=h.2 i hi;unfold k7 at this;rw [b30,b30] at this;have h4:=this.1.2;rw [b3w,b47] at h4;have:=h4 z hz;rw [decide_eq_true_iff] at this;omega
def asn {n:Int} (h:tok n l = true):jq l:=by
 unfold tok at h;rw [b30,decide_eq_true_iff,decide_eq_true_iff] at h
 have hs:∀ d i:Nat,i + d + 1 < l.length -> ltZ (l.getD i default) (l.getD (i + d + 1) default) = true:=by
  intro d
  induction d with
  | zero =>
   intro i hi;have:=h.2 (i + 1) hi;unfold k7 at this;rw [b30,b44,decide_eq_true_iff] at this
   rcases this.2 with h5 | h5
   · omega
   exact h5
  | succ d ih =>
   intro i hi;have h1:=ih i b5o;have:=h.2 (i + d + 1 + 1) b5o;unfold k7 at this;rw [b30,b44,decide_eq_true_iff] at this
   rcases this.2 with h5 | h5
   · omega
   exact gk h1 h5
 unfold jq;rw [b4p];intro i j hi hj hij;obtain ⟨d,rfl⟩:∃ d,j = i + d + 1:=⟨j - i - 1,by omega⟩;have:=hs d i hj;rwa [b2t,b2s hi,b2t,b2s hj] at this
def akw {n:Int} (h0:0 <= n) (h1:n <= 16) (h2:l.length <= 256) (hw:Wel n l) (ho:jq l):tok n l = true:=by
 refine ahc h0 h1 h2 fun i hi=>?_;obtain ⟨h3,h4⟩:=hw _ (wt hi);refine yp b5o ?_ ?_
 · rw [b47]
   intro z hz;have:=h4 z hz;rw [decide_eq_true_iff];omega
 rcases b3y i with h | h
 · exact .inl h
 right;have:=b4p.1 ho (i - 1) i b5o hi b5o;rw [b2t,b2s b5o,b2t,b2s hi];exact this
def yt {n:Int} (h0:0 <= n) (h1:n <= 16) (h2:(ae l).length <= 256) (hw:Wel n l):tok n (ae l) = true :=
 akw h0 h1 h2 (fun r hr=>hw r (ej.1 hr)) (dw l)
def inV (l:List Rw) (M:Nat -> Nat -> Int) (z:Int):Prop:=∃ i r,i < l.length /\ r < (l.getD i default).length /\ M i r = z
def afj {z:Int}:inV l (bd l) z <-> ∃ r,r ∈ l /\ z ∈ r:=by
 constructor
 · rintro ⟨i,r,hi,hr,rfl⟩
   refine ⟨_,wt hi, ?_⟩;show (l.getD i default).getD r default ∈ _;rw [b2t (l:=l.getD i default),b2s hr];exact b38 hr
 rintro ⟨r,hr,hz⟩;obtain ⟨i,hi,rfl⟩:=b3u hr;obtain ⟨k,hk,rfl⟩:=b3u hz;have e:l.getD i default = l[i]:=by rw [b2t,b2s hi];rfl
 refine ⟨i,k,hi,by rw [e];exact hk, ?_⟩;show (l.getD i default).getD k default = _;rw [e,b2t,b2s hk];rfl
def a3j {M:Nat -> Nat -> Int} {z:Int}:(∃ r,r ∈ cg l M /\ z ∈ r) <-> inV l M z:=by
 constructor
 · rintro ⟨r,hr,hz⟩
   unfold cg at hr;rw [b3k] at hr;obtain ⟨i,hi,rfl⟩:=hr;rw [b3k] at hz;obtain ⟨k,hk,rfl⟩:=hz;exact ⟨i,k,b3i.1 hi,b3i.1 hk,rfl⟩
 rintro ⟨i,k,hi,hk,rfl⟩;refine ⟨(List.range (l.getD i default).length).map (M i), ?_,b3k.2 ⟨k,b3i.2 hk,rfl⟩⟩;unfold cg;exact b3k.2 ⟨i,b3i.2 hi,rfl⟩
end
section
variable {l:List Rw} {a b:Nat} (ha:a < l.length) (hb:b < l.length)
def ag5 (x y:Int):loI x y = x \/ loI x y = y:=by unfold loI;split <;> simp
def ap9 (x y:Int):hiI x y = x \/ hiI x y = y:=by unfold hiI;split <;> simp
include ha hb in
def ay8 {M:Nat -> Nat -> Int} {j:Nat} (hja:j < (l.getD a default).length) (hjb:j < (l.getD b default).length) {z:Int} (h:inV l (eqM M a b j) z):inV l M z:=by
 obtain ⟨i,r,hi,hr,he⟩:=h;unfold eqM at he;split at he
 · rcases ag5 (M a j) (M b j) with h | h
   · exact ⟨a,j,ha,hja,by rw [<- he,h]⟩
   exact ⟨b,j,hb,hjb,by rw [<- he,h]⟩
 exact ⟨i,r,hi,hr,he⟩
include ha hb in
def aay:∀ {js:List Nat} {M:Nat -> Nat -> Int},(∀ j,j ∈ js -> j < (l.getD a default).length /\ j < (l.getD b default).length) -> ∀ {z:Int},inV l (eqMs M a b js) z -> inV l M z
 | [],_,_,_,h=>h
 | j :: js,M,hj,z,h=>ay8 ha hb (hj j b5r).1 (hj j b5r).2 (aay (js:=js) (M:=eqM M a b j) (fun k hk=>hj k (by simp [hk])) h)
include ha hb in
def a7u:∀ {js:List Nat} {M:Nat -> Nat -> Int},(∀ j,j ∈ js -> j < (l.getD a default).length /\ j < (l.getD b default).length) -> (∃ j,j ∈ js /\ ¬ M a j = M b j) -> ∃ z,inV l M z /\ ¬ inV l (eqMs M a b js) z
 | [],_,_,⟨_,h,_⟩=>by simp at h
 | j :: js,M,hj,⟨k,hk,hne⟩=>by
  by_cases e:M a j = M b j
  · have e2:eqMs M a b (j :: js) = eqMs M a b js:=by
     show eqMs (eqM M a b j) a b js = _;rw [pf e]
    rw [e2];refine a7u (fun k hk=>hj k (by simp [hk])) ⟨k, ?_,hne⟩
    rcases b33.1 hk with h | h
    · subst h;exact absurd e hne
    exact h
  refine ⟨hiI (M a j) (M b j), ?_,fun h=>?_⟩
  · rcases ap9 (M a j) (M b j) with h | h
    · exact ⟨a,j,ha,(hj j b5r).1,h.symm⟩
    exact ⟨b,j,hb,(hj j b5r).2,h.symm⟩
  obtain ⟨i,r,hi,hr,he⟩:=aay ha hb (fun k hk=>hj k (by simp [hk])) (show inV l (eqMs (eqM M a b j) a b js) _ from h);unfold eqM at he;split at he
  · unfold hiI loI at he
    split at he <;> split at he <;> omega
  rename_i h2;exact h2 he
end
def a68 (Z:List Int) (l:List Rw):Nat:=Z.countP fun z=>l.any fun r=>decide (z ∈ r)
def muC (Z:List Int) (l:List Rw):Nat:=a68 Z l * 300 + (300 - l.length)
def Cov (Z:List Int) (l:List Rw):Prop:=∀ r,r ∈ l -> ∀ z,z ∈ r -> z ∈ Z
def s7 {l:List Rw} {z:Int}:(l.any fun r=>decide (z ∈ r)) = true <-> ∃ r,r ∈ l /\ z ∈ r:=by
 rw [b3z];exact ⟨fun ⟨r,h,h2⟩=>⟨r,h,of_decide_eq_true h2⟩,fun ⟨r,h,h2⟩=>⟨r,h,decide_eq_true h2⟩⟩
def countP_lt' {p q:Int -> Bool}:∀ {Z:List Int},(∀ z,p z = true -> q z = true) -> (∃ z,z ∈ Z /\ q z = true /\ p z = false) -> Z.countP p < Z.countP q
 | [],_,⟨_,h,_⟩=>by simp at h
 | x :: Z,h,⟨z,hz,hq,hp⟩=>by
  have hm:Z.countP p <= Z.countP q:=List.countP_mono_left fun z _=>h z;rw [b4z,b4z]
  rcases b33.1 hz with rfl | hz
  · rw [hq,hp]
    simp only [if_true,b5e,if_false];omega
  have:=countP_lt' (Z:=Z) h ⟨z,hz,hq,hp⟩;by_cases e:p x = true
  · rw [e,h x e];omega
  rw [if_neg e];omega
def aqu {Z:List Int} {l l':List Rw} (h:∀ z,(∃ r,r ∈ l' /\ z ∈ r) -> ∃ r,r ∈ l /\ z ∈ r) (h2:∃ z,z ∈ Z /\ (∃ r,r ∈ l /\ z ∈ r) /\ ¬ ∃ r,r ∈ l' /\ z ∈ r):a68 Z l' < a68 Z l:=by
 refine countP_lt' (fun z hz=>s7.2 (h z (s7.1 hz))) ?_;obtain ⟨z,h3,h4,h5⟩:=h2;exact ⟨z,h3,s7.2 h4,by rw [b31];exact fun e=>h5 (s7.1 e)⟩
def ar6 {Z:List Int} {l l':List Rw} (h:∀ z,(∃ r,r ∈ l' /\ z ∈ r) -> ∃ r,r ∈ l /\ z ∈ r):a68 Z l' <= a68 Z l :=
 List.countP_mono_left fun z _ hz=>s7.2 (h z (s7.1 hz))
end
section
def a9f {r:Rw}:∀ {l:List Rw},r ∉ l -> (gc r l).length = l.length + 1
 | [],_=>rfl
 | y :: l,h=>by
  unfold gc;have h1:¬ r = y:=fun e=>h (by rw [e];simp);have h2:=a9f (l:=l) (r:=r) fun e=>h (by simp [e]);rw [if_neg h1];split
  · simp
  simp only [b49];omega
def ak6 {l:List Rw} {r:Rw} (ho:jq l):ae (l ++ [r]) = gc r l:=by
 have e:l = ae l:=abt ho fun _=>Iff.rfl
 have:ae (l ++ [r]) = gc r (ae l):=by
  unfold ae;rw [b4v];rfl
 rw [this,<- e]
section
variable {n:Int} {l:List Rw} {a b:Nat} {x:Fd}
abbrev fdL (l:List Rw) (a b:Nat) (x:Fd):List Rw:=ae (cg l (eqMs (bd l) a b (b6 x.rhs)))
def ah0 (hT:tok n l = true) (hu:inU n x = true) (ha:a < l.length) (hb:b < l.length) (hs:d6 l x a b = true) :
 fdE n l a b x = (n,fdL l a b x,0) /\ tok n (fdL l a b x) = true /\ (∀ z,(∃ r,r ∈ fdL l a b x /\ z ∈ r) -> ∃ r,r ∈ l /\ z ∈ r) /\ ∀ Z,Cov Z l -> muC Z (fdL l a b x) < muC Z l:=by
 obtain ⟨h0,h1,h2,h3⟩:=eu hT;have hw:=lb hT;unfold d6 at hs;rw [b30,b3w] at hs;obtain ⟨hl,hr⟩:=hs
 have hj:∀ j,j ∈ b6 x.rhs -> j < (l.getD a default).length /\ j < (l.getD b default).length:=fun j hj=>by
  have:=a0c h0 h1 hu hj;exact ⟨by rw [h3 a ha];exact this,by rw [h3 b hb];exact this⟩
 have hV:∀ z,(∃ r,r ∈ fdL l a b x /\ z ∈ r) -> ∃ r,r ∈ l /\ z ∈ r:=fun z ⟨r,hr,hz⟩=>afj.1 (aay ha hb hj (a3j.1 ⟨r,ej.1 hr,hz⟩));have hlen:(fdL l a b x).length <= l.length:=b3r (ud _) (b59 (im _ _));refine ⟨if_pos hl,yt h0 h1 (b3r hlen h2) (fun r hr=>⟨?_,fun z hz=>?_⟩),hV,fun Z hZ=>?_⟩
 · unfold cg at hr
   rw [b3k] at hr;obtain ⟨i,hi,rfl⟩:=hr;rw [b3l,List.length_range];exact h3 i (b3i.1 hi)
 · obtain ⟨r2,h5,h6⟩:=hV z ⟨r,ej.2 hr,hz⟩
   exact (hw r2 h5).2 z h6
 have hne:∃ j,j ∈ b6 x.rhs /\ ¬ bd l a j = bd l b j:=by
  apply Classical.byContradiction;intro hno;rw [vw] at hr
  · cases hr
  intro i hi hh;apply Classical.byContradiction;intro e
  have hi2:i < 32:=by
   have:=h3 a ha;omega
  rw [ef hi2] at hh;exact hno ⟨i,ua.2 ⟨hi2,hh⟩,e⟩
 obtain ⟨z,hz1,hz2⟩:=a7u ha hb hj hne;have hz3:=afj.1 hz1;have:=aqu (Z:=Z) hV ⟨z,by obtain ⟨r,h7,h8⟩:=hz3;exact hZ r h7 z h8,hz3,fun ⟨r,h7,h8⟩=>hz2 (a3j.1 ⟨r,ej.1 h7,h8⟩)⟩;unfold muC;omega
abbrev mvL (l:List Rw) (a b:Nat) (x:Fd):List Rw:=ae (l ++ [cj (l.getD a default) (l.getD b default) (x.lhs ||| x.rhs)])
def axp (hT:tok n l = true) (ha:a < l.length) (hb:b < l.length) (hs:db l x a b = true) :
 mvE n l a b x = (0,[],3) \/ (mvE n l a b x = (n,mvL l a b x,0) /\ tok n (mvL l a b x) = true /\ (∀ z,(∃ r,r ∈ mvL l a b x /\ z ∈ r) -> ∃ r,r ∈ l /\ z ∈ r) /\ ∀ Z,Cov Z l -> muC Z (mvL l a b x) < muC Z l):=by
 obtain ⟨h0,h1,h2,h3⟩:=eu hT;have hw:=lb hT;unfold db at hs;rw [b30,b3w] at hs;obtain ⟨hl,hr⟩:=hs;have hno:=aek hr;have hE:mvE n l a b x = nj n l (cj (l.getD a default) (l.getD b default) (x.lhs ||| x.rhs)):=if_pos hl;by_cases hbig:256 < (mvL l a b x).length
 · left
   rw [hE];exact if_pos hbig
 right
 have hmem:∀ z,z ∈ cj (l.getD a default) (l.getD b default) (x.lhs ||| x.rhs) -> z ∈ l.getD a default \/ z ∈ l.getD b default:=fun z hz=>by
  unfold cj at hz;rw [b3k] at hz;obtain ⟨i,hi,rfl⟩:=hz;have hi:=b3i.1 hi;have hi2:i < (l.getD a default).length:=by rw [h3 a ha,<- h3 b hb];exact hi
  split
  · left
    rw [b2t (l:=l.getD a default),b2s hi2];exact b38 hi2
  right;rw [b2t (l:=l.getD b default),b2s hi];exact b38 hi
 have hV:∀ z,(∃ r,r ∈ mvL l a b x /\ z ∈ r) -> ∃ r,r ∈ l /\ z ∈ r:=fun z ⟨r,hr,hz⟩=>by
  rcases b3f.1 (ej.1 hr) with h | h
  · exact ⟨r,h,hz⟩
  rw [b3c] at h;subst h
  rcases hmem z hz with h | h
  · exact ⟨_,wt ha,h⟩
  exact ⟨_,wt hb,h⟩
 refine ⟨by rw [hE];exact if_neg hbig,yt h0 h1 (Nat.le_of_not_lt fun e=>hbig e) (fun r hr=>⟨?_,fun z hz=>?_⟩),hV,fun Z hZ=>?_⟩
 · rcases b3f.1 hr with h | h
   · exact (hw r h).1
   rw [b3c] at h;subst h;rw [j2];exact h3 b hb
 · obtain ⟨r2,h5,h6⟩:=hV z ⟨r,ej.2 hr,hz⟩
   exact (hw r2 h5).2 z h6
 have e:(mvL l a b x).length = l.length + 1:=by
  show (ae _).length = _;rw [ak6 (asn hT),a9f hno]
 have:=ar6 (Z:=Z) hV;unfold muC;omega
end
def ak0 {α:Type} {f:Nat -> Option α}:∀ {n:Nat} {x:α},(List.range n).findSome? f = some x -> ∃ k,k < n /\ f k = some x:=fun {n x} h=>by
 obtain ⟨k,hk,e⟩:=b5c h;exact ⟨k,b3i.1 hk,e⟩
def xy {P:Nat -> Nat -> Nat -> Bool} {I L i a b:Nat} (h:dp P I L = some (i,a,b)):i < I /\ a < L /\ b < L /\ P i a b = true:=by
 obtain ⟨i',hi,h⟩:=ak0 h;obtain ⟨a',ha,h⟩:=ak0 h;rw [Option.map_eq_some_iff] at h;obtain ⟨b',hb,e⟩:=h;simp only [b2w] at e;obtain ⟨rfl,rfl,rfl⟩:=e;exact ⟨hi,ha,b3i.1 (List.mem_of_find?_eq_some hb),by simpa using List.find?_some hb⟩
def qo (l:List Rw) (p m:List Fd) (s:St):Prop:=s.2.2.1 < l.length /\ s.2.2.2 < l.length /\ ((s.1 = false /\ s.2.1 < p.length /\ d6 l (p.getD s.2.1 default) s.2.2.1 s.2.2.2 = true) \/ (s.1 = true /\ s.2.1 < m.length /\ db l (m.getD s.2.1 default) s.2.2.1 s.2.2.2 = true))
section
variable {l:List Rw} {m p:List Fd}
def a0w {s:St} (h:cw l p m = some s):qo l p m s:=by
 unfold cw at h;split at h
 · rename_i x e
   simp only [b2r] at h;subst h;obtain ⟨i,a,b⟩:=x;obtain ⟨h1,h2,h3,h4⟩:=xy e;exact ⟨h2,h3, .inl ⟨rfl,h1,h4⟩⟩
 rw [Option.map_eq_some_iff] at h;obtain ⟨⟨i,a,b⟩,e,rfl⟩:=h;obtain ⟨h1,h2,h3,h4⟩:=xy e;exact ⟨h2,h3, .inr ⟨rfl,h1,h4⟩⟩
def bu (n:Int) (l:List Rw) (p m:List Fd) (s:St):Int × List Rw × Int:=if s.1 = true then mvE n l s.2.2.1 s.2.2.2 (m.getD s.2.1 default) else fdE n l s.2.2.1 s.2.2.2 (p.getD s.2.1 default)
def aco {n:Int} {s:St} (hT:tok n l = true) (hp:p.all (inU n) = true) (h:qo l p m s):
 bu n l p m s = (0,[],3) \/ ∃ l',bu n l p m s = (n,l',0) /\ tok n l' = true /\ (∀ Z,Cov Z l -> Cov Z l' /\ muC Z l' < muC Z l):=by
 obtain ⟨ha,hb,h | h⟩:=h
 · obtain ⟨h1,h2,h3⟩:=h
   have hu:inU n (p.getD s.2.1 default) = true:=b3x.1 hp _ (by rw [b2t,b2s h2];exact b38 h2);obtain ⟨e,h4,h5,h6⟩:=ah0 hT hu ha hb h3;exact .inr ⟨_,by unfold bu;rw [if_neg (by rw [h1];decide)];exact e,h4,fun Z hZ=>⟨fun r hr z hz=>by obtain ⟨r2,h7,h8⟩:=h5 z ⟨r,hr,hz⟩;exact hZ r2 h7 z h8,h6 Z hZ⟩⟩
 obtain ⟨h1,h2,h3⟩:=h
 rcases axp hT ha hb h3 with e | ⟨e,h4,h5,h6⟩
 · exact .inl (by unfold bu;rw [if_pos h1];exact e)
 exact .inr ⟨_,by unfold bu;rw [if_pos h1];exact e,h4,fun Z hZ=>⟨fun r hr z hz=>by obtain ⟨r2,h7,h8⟩:=h5 z ⟨r,hr,hz⟩;exact hZ r2 h7 z h8,h6 Z hZ⟩⟩
def f7:Nat -> Int -> List Rw -> List Fd -> List Fd -> List St -> List St × (Int × List Rw) × Int
 | 0,_,_,_,_,_=>([],(0,[]),0)
 | f + 1,n,l,p,m,acc =>
  match cw l p m with
  | none=>(acc,(n,l),0)
  | some s=>match bu n l p m s with
   | (n',l',e)=>if e = 0 then f7 f n' l' p m (acc ++ [s]) else ([],(0,[]),e)
variable {acc:List St}
def a54 {f:Nat} {n:Int} (hf:0 < f) (h:cw l p m = none):f7 f n l p m acc = (acc,(n,l),0):=by
 obtain ⟨g,rfl⟩:∃ g,f = g + 1:=⟨f - 1,by omega⟩;unfold f7;rw [h]
def a4b {f:Nat} {n:Int} {s:St} (hf:0 < f) (h:cw l p m = some s) {n' e:Int} {l':List Rw} (h2:bu n l p m s = (n',l',e)) (he:¬ e = 0):f7 f n l p m acc = ([],(0,[]),e):=by
 obtain ⟨g,rfl⟩:∃ g,f = g + 1:=⟨f - 1,by omega⟩;unfold f7;rw [h];simp only;rw [h2];simp only;rw [if_neg he]
def vn {f:Nat} {n:Int} {s:St} (hf:0 < f) (h:cw l p m = some s) {n':Int} {l':List Rw} (h2:bu n l p m s = (n',l',0)):f7 f n l p m acc = f7 (f - 1) n' l' p m (acc ++ [s]):=by
 obtain ⟨g,rfl⟩:∃ g,f = g + 1:=⟨f - 1,by omega⟩;rw [Nat.add_sub_cancel]
 conv=>lhs;unfold f7
 rw [h];simp only;rw [h2];simp only;rw [if_pos trivial]
end
end
section
open Go.Proofs
def ata (n:Int) (l:List Rw) (p m:List Fd) (s:St) (hT:tok n l = true) (hp:p.all (inU n) = true) (h:qo l p m s) :
 a8 b6e 91 [pT n l,pP (fdl p),pP (fdl m),s.pc] (aa [pT (bu n l p m s).1 (bu n l p m s).2.1,pI (bu n l p m s).2.2]):=by
 obtain ⟨mu,i,a,b⟩:=s;obtain ⟨ha,hb,h | h⟩:=h
 · obtain ⟨h1,h2,h3⟩:=h
   cases h1;exact afa n l p m i a b hT ha hb h2 (b3x.1 hp _ (by rw [b2t,b2s h2];exact b38 h2))
 obtain ⟨h1,h2,h3⟩:=h;cases h1;exact afd n l p m i a b hT ha hb h2
abbrev St.c (s:St):Nat -> PV:=fun j=>[.raw (.bool s.1), .raw (.int .i64 (s.2.1:Int)), .raw (.int .i64 (s.2.2.1:Int)), .raw (.int .i64 (s.2.2.2:Int))].getD j .any
abbrev stl (l:List St):PV:=psl 4 St.c l
abbrev ckE (n:Int) (l:List Rw) (p m:List Fd):Int:=if tok n l = true then bi n p m else 1
section
variable {l:List Rw} {m p:List Fd} {n:Int}
def a48 (h:ckE n l p m = 0):tok n l = true /\ bi n p m = 0 /\ p.all (inU n) = true:=by
 unfold ckE at h;by_cases e:tok n l = true
 · rw [if_pos e] at h
   exact ⟨e,h,(sd h).2.2.2.1⟩
 rw [if_neg e] at h;omega
def fk (F:Nat) (n:Int) (l:List Rw) (p m:List Fd):List St × (Int × List Rw) × Int:=if ckE n l p m = 0 then f7 F n l p m [] else ([],(0,[]),ckE n l p m)
variable {F:Nat}
def a2r (h:¬ ckE n l p m = 0):fk F n l p m = ([],(0,[]),ckE n l p m):=if_neg h
def p6 (h:ckE n l p m = 0):fk F n l p m = f7 F n l p m []:=if_pos h
def af6 {α:Type} {o:Option α} (h:o.isSome = false):o = none:=by cases o <;> simp_all
def af9 {α:Type} {o:Option α} (d:α) (h:o.isSome = true):o = some (o.getD d):=by cases o <;> simp_all
def ade (l:List Rw):Cov l.flatten l:=fun r hr z hz=>List.mem_flatten.2 ⟨r,hr,hz⟩
structure StI (F:Nat) (n:Int) (l:List Rw) (p m:List Fd) (x:Nat × List Rw × List St):Prop where
 t:tok n x.2.1 = true
 c:Cov l.flatten x.2.1
 u:muC l.flatten x.2.1 < x.1
 b:x.2.2.length + x.1 <= F
 e:f7 x.1 n x.2.1 p m x.2.2 = f7 F n l p m []
theorem StI.start (hT:tok n l = true) (hF:muC l.flatten l < F):StI F n l p m (F,l,[]):=⟨hT,ade l,hF,by simp,rfl⟩
variable {x:Nat × List Rw × List St}
theorem StI.next {s:St} (h:StI F n l p m x) (hp:p.all (inU n) = true) (hS:cw x.2.1 p m = some s) (he:(bu n x.2.1 p m s).2.2 = 0):
 (bu n x.2.1 p m s).1 = n /\ StI F n l p m (x.1 - 1,(bu n x.2.1 p m s).2.1,x.2.2 ++ [s]):=by
 have hu:=h.u;have hb:=h.b
 rcases aco h.t hp (a0w hS) with e | ⟨l',e,h1,h2⟩
 · rw [e] at he;exact absurd he b5t
 have hq:=h2 _ h.c;refine ⟨by rw [e], ?_⟩;rw [e];exact ⟨h1,hq.1,by show muC _ l' < _;omega,by simp only [b3e,b4s];omega,by rw [<- h.e,vn b5o hS e]⟩
theorem StI.fin (h:StI F n l p m x) (hS:cw x.2.1 p m = none):f7 F n l p m [] = (x.2.2,(n,x.2.1),0):=by
 have hu:=h.u;rw [<- h.e,a54 b5o hS]
theorem StI.err {s:St} (h:StI F n l p m x) (hS:cw x.2.1 p m = some s) (he:¬ (bu n x.2.1 p m s).2.2 = 0):f7 F n l p m [] = ([],(0,[]),(bu n x.2.1 p m s).2.2):=by
 have hu:=h.u;rw [<- h.e];exact a4b b5o hS rfl he
end
end
section
open Go.Proofs
def aw8 (F:Nat) (n:Int) (l:List Rw) (p m:List Fd) (hF:tok n l = true -> muC l.flatten l < F) (hFb:F <= 4000000000):a8 b6e 86 [pT n l,pP (fdl p),pP (fdl m)] (aa [pP (stl (fk F n l p m).1),pT (fk F n l p m).2.1.1 (fk F n l p m).2.1.2,pI (fk F n l p m).2.2]):=by
 refine hpx (nt:=53) Tryz.func86 ?_;refine sx7 ?_;refine m9 0 ?_;refine qy ?_;refine m9 1 ?_;refine w_8 ?_;refine qcx a9r (a2d n l p m) ?_;refine w_7 ?_;refine hcn (fun h0=>?_) (fun h0=>?_)
 · refine w_8 ?_;refine hrr ?_;have he:=a2r (F:=F) (n:=n) (l:=l) (p:=p) (m:=m) b5p;exact f9 rfl rfl (by rw [he];exact ⟨CoC.one (CoP.sl rfl (.inr rfl) (fun _=>rfl) (fun i j hi _=>absurd hi (b2y i))),CoC.agg ⟨CoP.refl _,au,trivial⟩,CoC.refl _,trivial⟩)
 have hck:ckE n l p m = 0:=by assumption
 obtain ⟨hT,hbe,hpa⟩:=a48 hck;obtain ⟨hn0,hn16,hl256,hrow⟩:=eu hT;have hbig:∀ i,i < l.length -> (l.getD i default).length <= 17592186044416:=fun i hi=>by rw [hrow i hi];omega
 refine w_4 ?_;refine qcx a7b (alz n l hbig b5o) ?_;refine w_6 ?_;refine dn 10 900 true 4 85 (lf St.c []) b5t rfl (CoP.sl rfl (.inr rfl) (fun h=>h) (fun i j hi _=>absurd hi (b2y i))) (.inr rfl) rfl ?_;refine a3a ?_;refine ak (ι:=Nat × List Rw × List St) (ka 1 (ka 2 (ka 3 (ka 7 kn)))) (kb 1 km) (fun x=>⟨[(10,some (.v (.one (.ref 900 x.2.2.length))))],[(0,some (.box [.p (.raw (.int .i64 n)), .p (rl x.2.1)])),(900,some (.arr true 4 85 x.2.2.length (lf St.c x.2.2)))]⟩) (fun x=>StI F n l p m x) (fun x=>x.1) ((F,l,[])) (StI.start hT (hF hT)) kk ?_;rintro x hX;have hXu:=hX.u;have hXb:=hX.b;refine w_6 ?_;refine qcx (wgx Tryz.func126) (atg n x.2.1 p m hX.t) ?_;refine w_3 ?_;refine m9 2 ?_;refine w_9 ?_;refine hcv (fun h1=>?_) (fun h1=>?_)
 · have hS:=af6 (by simpa using h1);refine w_9 ?_;refine bf 6 rfl rfl rfl ?_;refine hrr ?_;have he:=(p6 hck).trans (hX.fin hS);exact f9 rfl rfl (by rw [he];exact CoL.refl _)
 have hS:=af9 (false,0,0,0) (by simpa using h1);refine w_7 ?_;refine qcx adf (ata n x.2.1 p m ((cw x.2.1 p m).getD (false,0,0,0)) hX.t hpa (a0w hS)) ?_;refine w_3 ?_;refine m9 3 ?_;refine w_9 ?_;refine hcn (fun h2=>?_) (fun h2=>?_)
 · refine w_8 ?_;refine hrr ?_;have he:=(p6 hck).trans (hX.err hS b5p);exact f9 rfl rfl (by rw [he];exact ⟨CoC.one (CoP.sl rfl (.inr rfl) (fun _=>rfl) (fun i j hi _=>absurd hi (b2y i))),CoC.agg ⟨CoP.refl _,au,trivial⟩,CoC.refl _,trivial⟩)
 have hnx:=hX.next hpa hS b5p
 refine w_4 ?_;refine m9 4 ?_;refine r9 5 true ?_;refine w_5 ?_;refine ⟨(x.1 - 1,(bu n x.2.1 p m ((cw x.2.1 p m).getD (false,0,0,0))).2.1,x.2.2 ++ [((cw x.2.1 p m).getD (false,0,0,0))]), ?_, ?_, ?_⟩
 · exact hnx.2
 · show x.1 - 1 < x.1
   omega
 exact ⟨⟨⟨_,rfl,(i6 rfl)⟩,tt⟩,⟨⟨_,rfl,⟨CoP.of_eq (by rw [hnx.1]),CoH.refl _,trivial⟩⟩,⟨_,rfl,(wh rfl (fun j hj=>by match j,hj with | 0,_=>exact CoP.refl _ | 1,_=>exact CoP.refl _ | 2,_=>exact CoP.refl _ | 3,_=>exact CoP.refl _) rfl)⟩,uu⟩⟩
end
section
def aci:∀ {l:List Rw},(∀ r,r ∈ l -> r.length <= 16) -> l.flatten.length <= 16 * l.length
 | [],_=>by simp
 | r :: l,h=>by
  have h1:=h r b5r;have h2:=aci (l:=l) fun r hr=>h r (by simp [hr]);simp only [List.flatten_cons,b3e,b49];omega
abbrev FU:Nat:=1300000
def a9o {n:Int} {l:List Rw} (h:tok n l = true):muC l.flatten l < FU:=by
 obtain ⟨h0,h1,h2,h3⟩:=eu h;have h4:=aci (l:=l) fun r hr=>by have:=(lb h r hr).1;omega
 have h5:a68 l.flatten l <= l.flatten.length:=List.countP_le_length;unfold muC;show _ < 1300000;omega
def aui {n:Int} {i:Nat} {p:AS} {k a N:Nat} (h:bc p (k:Int) = true) (hN:N = n.toNat) (ha:a = k) :
 CoO (.arr true 1 3 N (dx (lf zC (stT n i p k)) a 0 [.raw (.int .i64 (k:Int))])) (.arr true 1 3 N (lf zC (stT n i p (k + 1)))):=by
 subst ha;refine ⟨fun h=>h,rfl,rfl,rfl,fun c j hc hj=>CoP.of_eq ?_⟩;obtain rfl:j = 0:=by omega
 show _ = PV.raw (.int .i64 ((stT n i p (a + 1)).getD c default));rw [a2w c b5o];unfold dx;by_cases e:c = a
 · rw [if_pos ⟨e,by omega,by simp⟩,if_pos e]
   unfold stV;rw [if_pos h];rfl
 rw [if_neg (fun x=>e x.1),if_neg e];rfl
def akn {k:Nat} (h:k < 32):bc (j3 32) (k:Int) = true:=by
 rw [ef h,kf 32 k h];exact decide_eq_true h
def ajo {n:Int} {k:Nat} (h1:n <= 16) (hk:n.toNat <= k):stT n 0 (j3 32) k = bg n:=by
 rw [afr _ _ _ hk];unfold stR bg;refine b4g fun c hc=>?_;have:=b3i.1 hc;unfold stV;rw [if_pos (akn b5o)]
def akg {n:Int} {k:Nat} (h1:n <= 16) (hk:n.toNat <= k):CoC (.one (.sl n.toNat 1 false (lf zC (stT n 0 (j3 32) k)))) (pZ (bg n)):=by
 rw [ajo h1 hk];exact agi (qw n)
abbrev uq (n:Int) (x:Fd):List AS:=[x.lhs ||| x.rhs,x.lhs ||| (ax n &&& ~~~x.rhs)]
def b1b (n:Int) (p m:List Fd) (x:Fd):Bool × Int :=
 if bi n p m = 0 then
  if inU n x = true then
   if (dz n (uq n x)).2.2 = 0 then
    if (fk FU (dz n (uq n x)).1 (dz n (uq n x)).2.1 p m).2.2 = 0 then ((fk FU (dz n (uq n x)).1 (dz n (uq n x)).2.1 p m).2.1.2.any (fun r=>decide (r = bg n)),0)
    else (false,(fk FU (dz n (uq n x)).1 (dz n (uq n x)).2.1 p m).2.2)
   else (false,(dz n (uq n x)).2.2)
  else (false,1)
 else (false,bi n p m)
end
section
def at4 {r:Rw} {g f:Nat -> Nat -> PV} (hf:∀ i j,f i j = lf zC r i j):CoP (.sl (0 + r.length) 1 false (cq 0 g f)) (zl r) :=
 CoP.sl (b3b _).symm (.inl rfl) (fun h=>h) fun i j hi hj=>CoP.of_eq (by simp [cq,hf])
def ahw {l:List Rw} {i k:Nat} {g f:Nat -> Nat -> PV} {e et:TypeId} (hk:k = (l.getD i default).length) (hf:∀ a b,f a b = lf zC (l.getD i default) a b) :
 CoO (.nest e et 1 (i + 1) (mb (nM l) i k) (o8 (mg (bd l)) i (cq 0 g f)) none) (.nest e et 1 (i + 1) (nM l) (mg (bd l)) none):=by
 have e:cq 0 g f = lf zC (l.getD i default):=by funext a b;simp [cq,hf]
 rw [e];exact a8j hk rfl
end
section
open Go.Proofs
def a72:goodFn b6e 133:=wgx Tryz.func133
def acs (l:List Rw) (hl:∀ i,i < l.length -> (l.getD i default).length <= 17592186044416) (hl2:l.length <= 5864062014805):c8 b6e 133 [.one (.p (rl l))] [] (.v (.one (.ref 901 l.length))) [(901, .arr true 1 97 l.length (lf rC l))] []:=by
 refine hfx (nt:=21) Tryz.func133 ?_;refine c0 ?_;refine c5 0 rfl fun hn=>?_;refine w_7 ?_;refine dn 3 901 true 1 97 (lf rC l) b5t rfl (CoP.sl rfl (.inr rfl) (fun h=>h) (fun i j hi _=>absurd hi (b2y i))) (.inr rfl) rfl ?_;refine w_6 ?_;refine bw (ka 0 kn) km (fun i=>⟨[(3,some (.v (.one (.ref 901 i)))),(4,some (vI i))],[(901,some (.arr true 1 97 i (lf rC l)))]⟩) l.length kk ?_;rintro i hi;refine w_8 ?_;refine hcd (fun h0=>?_) (fun h0=>?_)
 · have hli:=hl i b5o;refine w_3 ?_;refine ahv [0,1,2,3,4,5,6] [7,8,9] rfl ?_;refine akz (E:=pw) qd ?_;refine qy ?_;refine m9 0 ?_;refine w_4 ?_;refine r9 1 true ?_;refine bm ?_;refine ayc ?_;refine ait 17 rfl rfl rfl ?_;refine asw ?_;refine akz (E:=pw) (L1:=[7,8,9]) (L2:=[]) qd ?_;refine m9 2 ?_;refine r9 3 true ?_;refine w_2 ?_;refine av0 ?_;refine w_5 ?_;exact lpx (i + 1) ⟨tt,⟨⟨_,rfl,(fq (fun h=>h) (fun j hj=>by obtain rfl:j = 0:=b5o;exact at4 (fun _ _=>rfl)))⟩,trivial⟩⟩
 obtain rfl:i = l.length:=by omega
 refine w_6 ?_;refine hrr ?_;exact ⟨_,_,rfl,b5q,CoR.refl _,uu⟩
def aji (l:List Rw) (hl:∀ i,i < l.length -> (l.getD i default).length <= 17592186044416) (hl2:l.length <= 5864062014805):c8 b6e 133 [.one (.p (rl l))] [] (.v (.one (.ref 901 l.length))) [(901, .nest 97 3 1 l.length (nM l) (mg (bd l)) none)] []:=by
 refine hfx (nt:=21) Tryz.func133 ?_;refine c0 ?_;refine c5 0 rfl fun hn=>?_;refine w_7 ?_;refine ai3 3 901 97 3 1 (nM l) (mg (bd l)) b5t rfl rfl ?_;refine w_6 ?_;refine bw (ka 0 kn) km (fun i=>⟨[(3,some (.v (.one (.ref 901 i)))),(4,some (vI i))],[(901,some (.nest 97 3 1 i (nM l) (mg (bd l)) none))]⟩) l.length kk ?_;rintro i hi;refine w_8 ?_;refine hcd (fun h0=>?_) (fun h0=>?_)
 · have hli:=hl i b5o;refine w_5 ?_;refine m9 0 ?_;refine w_4 ?_;refine r9 1 true ?_;refine m9 2 ?_;refine r9 3 true ?_;refine w_2 ?_;refine a88 901 0 rfl rfl ?_;refine w_5 ?_;exact lpx (i + 1) ⟨tt,⟨⟨_,rfl,(ahw (b3b _) (fun _ _=>rfl))⟩,trivial⟩⟩
 obtain rfl:i = l.length:=by omega
 refine w_6 ?_;refine hrr ?_;exact ⟨_,_,rfl,b5q,CoR.refl _,uu⟩
end
section
def ak7 {s:AS} {n:Nat} (hn:n <= 32) (h:∀ j,j ∈ b6 s -> j < n):eg s n = b6 s:=by
 have h2:∀ d,n + d <= 32 -> eg s (n + d) = eg s n:=by
  intro d
  induction d with
  | zero=>intro _;rfl
  | succ d ih =>
   intro hd
   have hf:bc s ((n + d:Nat):Int) = false:=by
    rw [ef b5o,b31];intro e;have:=h _ (ua.2 ⟨by omega,e⟩);omega
   rw [<- ih b5o];exact a0v (i:=n + d) (show n + d < 32 by omega) hf
 have:=h2 (32 - n) b5o;rw [<- this,show n + (32 - n) = 32 by omega];rfl
def mt {M:Nat -> Nat -> Int} {a b j:Nat} {js:List Nat}:eqMs M a b (js ++ [j]) = eqM (eqMs M a b js) a b j:=by
 unfold eqMs;rw [b4v];rfl
def am4 {l:List Rw} {M:Nat -> Nat -> Int} {n:Nat} (hn:n = l.length):CoP (.sl n 1 false (um 1 (nM l) (mg M))) (rl (cg l M)):=by
 obtain ⟨_,_,_,h1,h2⟩:=aeq (l:=l) (M:=M) (e:=25) hn;exact CoP.sl h1 (.inl rfl) (fun h=>h) h2
end
end Go.Hx

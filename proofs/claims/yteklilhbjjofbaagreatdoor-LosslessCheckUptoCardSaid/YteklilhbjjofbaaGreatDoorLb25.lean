/- A part of the proof: X21 X22 X23 Ch19 X24 Ch20 Ch21 X27 Ch23 X28. -/
import Derived.Test.YteklilhbjjofbaaGreatDoorLb24
set_option linter.all false
set_option maxRecDepth 100000
set_option maxHeartbeats 1000000
namespace Go.Hx
section
open Go.Proofs
def als (n:Int) (l:List Rw) (s:AS) (a b:Nat) (h0:0 <= n) (h1:n <= 16) (hrow:∀ i,i < l.length -> (l.getD i default).length = n.toNat) (hl2:l.length <= 4294967296) (ha:a < l.length) (hb:b < l.length) (hs:∀ j,j ∈ b6 s -> j < n.toNat):a8 b62 124 [pT n l,pA s,pI (a:Int),pI (b:Int)] (ah [pT n (ae (cj l (eqMs (be l) a b (b6 s))))]):=by
 refine hpx (nt:=88) Tryz.func124 ?_;refine sx7 ?_;refine m9 0 ?_;refine m9 1 ?_;refine w_5 ?_;refine fc9 a7d (ahw l (fun i hi=>by rw [hrow i hi];omega) b5c) trivial ?_;refine w_8 ?_;refine ce (ka 1 (ka 2 (ka 3 (ka 4 (ka 8 (ka 9 kn)))))) (kb 0 (kb 1 km)) (fun j=>⟨[(10,some (vI j))],[(901,some (.nest 97 3 1 l.length (fun i=>(l.getD i default).length) (mg (eqMs (be l) a b (ek s j))) none))]⟩) n.toNat kk ?_;rintro j hj;refine w_2 ?_;have hra:=hrow a ha;have hrb:=hrow b hb;refine w_6 ?_;refine hcd (fun h0=>?_) (fun h0=>?_)
 ·
  refine dm ?_;(iterate 2 refine rq rfl rfl rfl rfl rfl ?_ (hp:=(by (try simp only [b2k,nM]);(repeat' apply And.intro) <;> first | trivial | rfl | omega | exact b27 rfl)));refine w_5 ?_;(iterate 2 refine rq rfl rfl rfl rfl rfl ?_ (hp:=(by (try simp only [b2k,nM]);(repeat' apply And.intro) <;> first | trivial | rfl | omega | exact b27 rfl)));refine w_9 ?_
  refine qcx wh (aao s (j:Int)) ?_;refine w_2 ?_;refine ag rfl rfl (fun r1=>?_) (fun r1=>?_)
  ·
   have h1:=dq r1;(iterate 3 refine k9 (gtf r1) ?_);refine w_9 ?_
   exact lpx (j + 1) ⟨tt,⟨⟨_,rfl,(by first | (rw [a0k b5c b5d];exact CoO.refl _) | (rw [s8 b5c b5d,mn,o9 b5d];exact CoO.refl _) | (rw [s8 b5c b5d,mn];exact mb (t7 b5c)))⟩,uu⟩⟩
  have h1:=dt r1;(iterate 3 refine qy ?_ (hg:=(gff r1)));refine w_2 ?_;refine al _ rfl (fun r2=>?_) (fun r2=>?_)
  · have h2:=tz1 (af r1 r2);refine w_6 ?_;exact lpx (j + 1) ⟨tt,⟨⟨_,rfl,(by first | (rw [a0k b5c b5d];exact CoO.refl _) | (rw [s8 b5c b5d,mn,o9 b5d];exact CoO.refl _) | (rw [s8 b5c b5d,mn];exact mb (t7 b5c)))⟩,uu⟩⟩
  have h2:=tz2 (af r1 r2);refine w_8 ?_;refine a4l (ka 1 (ka 2 (ka 3 (ka 4 (ka 8 (ka 9 (ka 10 kn))))))) (kb 0 (kb 1 km)) ⟨[(13,some (vI (loI ((eqMs (be l) a b (ek s j)) a j) ((eqMs (be l) a b (ek s j)) b j)))),(14,some (vI (hiI ((eqMs (be l) a b (ek s j)) a j) ((eqMs (be l) a b (ek s j)) b j))))],[(901,some (.nest 97 3 1 l.length (fun i=>(l.getD i default).length) (mg (eqMs (be l) a b (ek s j))) none))]⟩ ?_ ?_
  ·
   refine w_6 ?_;refine hcd (fun h3=>?_) (fun h3=>?_)
   · refine w_6 ?_;exact ⟨⟨⟨_,rfl,(qz (by simp only [b2k];unfold loI;split <;> omega))⟩,⟨_,rfl,(qz (by simp only [b2k];unfold hiI;split <;> omega))⟩,tt⟩,uu⟩
   refine da ?_;exact ⟨⟨⟨_,rfl,(qz (by simp only [b2k];unfold loI;split <;> omega))⟩,⟨_,rfl,(qz (by simp only [b2k];unfold hiI;split <;> omega))⟩,tt⟩,uu⟩
  refine w_5 ?_;refine ce (ka 1 (ka 2 (ka 3 (ka 4 (ka 8 (ka 9 (ka 10 (ka 13 (ka 14 kn))))))))) (kb 0 (kb 1 km)) (fun i=>⟨[(15,some (vI i))],[(901,some (.nest 97 3 1 l.length (fun i=>(l.getD i default).length) (mg (io (eqMs (be l) a b (ek s j)) (hiI ((eqMs (be l) a b (ek s j)) a j) ((eqMs (be l) a b (ek s j)) b j)) (loI ((eqMs (be l) a b (ek s j)) a j) ((eqMs (be l) a b (ek s j)) b j)) i 0)) none))]⟩) l.length ⟨tt,⟨⟨_,rfl,(by rw [a7x];exact CoO.refl _)⟩,trivial⟩⟩ ?_;rintro i hi;refine w_8 ?_;refine hcd (fun h4=>?_) (fun h4=>?_)
  ·
   have hri:=hrow i b5c;refine w_8 ?_;refine ce (ka 1 (ka 2 (ka 3 (ka 4 (ka 8 (ka 9 (ka 10 (ka 13 (ka 14 (ka 15 kn)))))))))) (kb 0 (kb 1 km)) (fun k=>⟨[(16,some (vI k))],[(901,some (.nest 97 3 1 l.length (fun i=>(l.getD i default).length) (mg (io (eqMs (be l) a b (ek s j)) (hiI ((eqMs (be l) a b (ek s j)) a j) ((eqMs (be l) a b (ek s j)) b j)) (loI ((eqMs (be l) a b (ek s j)) a j) ((eqMs (be l) a b (ek s j)) b j)) i k)) none))]⟩) n.toNat kk ?_;rintro k hk;refine w_8 ?_;refine hcd (fun h5=>?_) (fun h5=>?_)
   ·
    refine dm ?_;(iterate 2 refine rq rfl rfl rfl rfl rfl ?_ (hp:=(by (try simp only [b2k,nM]);(repeat' apply And.intro) <;> first | trivial | rfl | omega | exact b27 rfl)));refine w_3 ?_;refine hcd (fun h6=>?_) (fun h6=>?_)
    · refine w_7 ?_;refine rq rfl rfl rfl rfl rfl ?_ (hp:=(by (try simp only [b2k,nM]);(repeat' apply And.intro) <;> first | trivial | rfl | omega | exact b27 rfl));refine rs rfl rfl rfl rfl rfl ?_ (hp:=(by (try simp only [b2k,nM]);(repeat' apply And.intro) <;> first | trivial | rfl | omega | exact b27 rfl));refine w_6 ?_;exact lpx (k + 1) ⟨tt,⟨⟨_,rfl,(by first | exact a11 (a4x b5d) b5f b5f | (rw [a5k b5d];exact CoO.refl _))⟩,uu⟩⟩
    refine w_6 ?_;exact lpx (k + 1) ⟨tt,⟨⟨_,rfl,(by first | exact a11 (a4x b5d) b5f b5f | (rw [a5k b5d];exact CoO.refl _))⟩,uu⟩⟩
   refine w_6 ?_;exact lpx (i + 1) ⟨tt,⟨⟨_,rfl,(mb (aal b5c))⟩,uu⟩⟩
  refine w_6 ?_;exact lpx (j + 1) ⟨tt,⟨⟨_,rfl,(by first | (rw [a0k b5c b5d];exact CoO.refl _) | (rw [s8 b5c b5d,mn,o9 b5d];exact CoO.refl _) | (rw [s8 b5c b5d,mn];exact mb (t7 b5c)))⟩,uu⟩⟩
 obtain rfl:j = n.toNat:=by omega
 refine w_2 ?_;have hme:=akr (s:=s) (n:=n.toNat) b5c hs;refine af0 901 rfl ?_;refine bo 9 rfl rfl rfl ?_;refine w_4 ?_;refine rc rfl rfl rfl rfl rfl rfl a74 (a2o n (cj l (eqMs (be l) a b (b6 s))) (by rw [i9];omega)) (⟨CoC.refl _,CoC.one (by rw [hme];exact ao2 rfl),trivial⟩) rfl rfl ?_;refine v_2 ?_;exact CoL.refl _
end
section
open Go.Proofs
def b5s {p:Prop} (h:p:=by first | omega | (simp only [b2k];omega)):p:=h
def b5y {p:Prop} (h:p:=by first | exact oc b5c b5d b5c b5c | exact oz (b2e.1 b5d)):p:=h
def aw5 (n:Int) (l:List Rw) (x:Fd) (a b:Nat) (h0:0 <= n) (h1:n <= 16) (hrow:∀ i,i < l.length -> (l.getD i default).length = n.toNat) (hl2:l.length <= 4294967296) (ha:a < l.length) (hb:b < l.length):a8 b62 123 [pT n l,x.pc,pI (a:Int),pI (b:Int)] (ah [pT n (ae (l ++ [(cq (l.getD a default) (l.getD b default) (x.lhs ||| x.rhs))]))]):=by
 refine hpx (nt:=51) Tryz.func123 ?_;refine sx7 ?_;refine m9 0 ?_;refine m9 1 ?_;refine m9 2 ?_;refine w_2 ?_;have hra:=hrow a ha;have hrb:=hrow b hb;refine gy ?_;refine m9 3 ?_;refine w_5 ?_;refine r9 4 true ?_;refine w_8 ?_;refine ce (ka 2 (ka 4 (ka 5 (ka 8 (ka 9 kn))))) (kb 0 (kb 1 (kb 2 km))) (fun j=>⟨[(10,some (vI j))],[(3,some (.arr true 1 3 (0 + (l.getD b default).length) (lf zC (iz (l.getD a default) (l.getD b default) (x.lhs ||| x.rhs) j))))]⟩) n.toNat ⟨tt,⟨⟨_,rfl,(aa6 (fun _ _=>rfl))⟩,trivial⟩⟩ ?_;rintro j hj;refine w_8 ?_;refine hcd (fun h0=>?_) (fun h0=>?_)
 ·
  refine dn ?_;refine rc rfl rfl rfl rfl rfl rfl wh (aao (x.lhs ||| x.rhs) (j:Int)) (⟨cci (by rw [bOr]),CoC.refl _,trivial⟩) rfl rfl ?_;refine ck ?_;refine hcb (fun h1=>?_) (fun h1=>?_)
  · refine w_9 ?_;(iterate 3 refine rq rfl rfl rfl rfl rfl ?_ (hp:=(by (try simp only [b2k,nM]);(repeat' apply And.intro) <;> first | trivial | rfl | omega | exact b27 rfl)));refine rs rfl rfl rfl rfl rfl ?_ (hp:=(by (try simp only [b2k,nM]);(repeat' apply And.intro) <;> first | trivial | rfl | omega | exact b27 rfl));refine w_6 ?_;exact lpx (j + 1) ⟨tt,⟨⟨_,rfl,b5y⟩,uu⟩⟩
  refine w_6 ?_;exact lpx (j + 1) ⟨tt,⟨⟨_,rfl,b5y⟩,uu⟩⟩
 obtain rfl:j = n.toNat:=by omega
 refine w_2 ?_;refine bo 9 rfl rfl rfl ?_;refine w_5 ?_;refine fc9 a7d (a9m l (fun i hi=>by rw [hrow i hi];omega) b5c) trivial ?_;refine qy ?_;refine m9 5 ?_;refine r9 6 true ?_;refine fl rfl rfl rfl rfl rfl rfl a74 (a8.eat (hcs:=[.one (.p (.raw (.int .i64 n))), .one (.ref 901 (l ++ [(cq (l.getD a default) (l.getD b default) (x.lhs ||| x.rhs))]).length)]) (o1:=[(901, .arr true 1 97 (l ++ [(cq (l.getD a default) (l.getD b default) (x.lhs ||| x.rhs))]).length (lf rC (l ++ [(cq (l.getD a default) (l.getD b default) (x.lhs ||| x.rhs))])))]) (a2o n (l ++ [(cq (l.getD a default) (l.getD b default) (x.lhs ||| x.rhs))]) b5l) rfl (by (repeat' apply And.intro) <;> first | trivial | rfl) (CoL.refl _)) (⟨CoP.refl _,congrArg (HV.ref 901) b5f,trivial⟩) ⟨⟨_,rfl,(ji rfl (aeg b5s b5s))⟩,trivial⟩ rfl rfl ?_;refine v_3 ?_;exact CoL.refl _
end
section
open Go.Proofs
def ay8 (n:Int) (l:List Rw) (p m:List Fd) (i a b:Nat) (h0:0 <= n) (h1:n <= 16) (hrow:∀ i,i < l.length -> (l.getD i default).length = n.toNat) (ha:a < l.length) (hb:b < l.length) (hi:i < p.length):a8 b62 165 [pT n l,pP (fdl p),pP (fdl m), .agg [.raw (.bool false), .raw (.int .i64 (i:Int)), .raw (.int .i64 (a:Int)), .raw (.int .i64 (b:Int))]] (ah [pB (d7 l (p.getD i default) a b)]):=by
 refine hpx (nt:=85) Tryz.func165 ?_;refine sx7 ?_;refine m9 0 ?_;refine m9 1 ?_;refine w_3 ?_;have hra:=hrow a ha;have hrb:=hrow b hb;refine agu ?_;refine w_3 ?_;refine qcx wz (vz (l.getD a default) (l.getD b default) (p.getD i default).lhs b5c b5c) ?_;refine qy ?_;refine ag rfl rfl (fun r0=>?_) (fun r0=>?_)
 ·
  have h0:=r0;(iterate 8 refine qy ?_ (hg:=(gtt r0)));refine qcx wz (vz (l.getD a default) (l.getD b default) (p.getD i default).rhs b5c b5c) ?_ (hg:=(gtt r0));refine qy ?_ (hg:=(gtt r0));refine w_3 ?_
  exact hx8 rfl rfl rfl (⟨ccb (by first | exact (xx b5d).symm | simp_all [d7]),trivial⟩)
 have h0:=r0;(iterate 10 refine k9 (gft r0) ?_);refine w_3 ?_
 exact hx8 rfl rfl rfl (⟨ccb (by first | exact (xx b5d).symm | simp_all [d7]),trivial⟩)
def axu (n:Int) (l:List Rw) (p m:List Fd) (i a b:Nat) (h0:0 <= n) (h1:n <= 16) (hrow:∀ i,i < l.length -> (l.getD i default).length = n.toNat) (ha:a < l.length) (hb:b < l.length) (hi:i < m.length):a8 b62 165 [pT n l,pP (fdl p),pP (fdl m), .agg [.raw (.bool true), .raw (.int .i64 (i:Int)), .raw (.int .i64 (a:Int)), .raw (.int .i64 (b:Int))]] (ah [pB (a17 l (m.getD i default) a b)]):=by
 refine hpx (nt:=85) Tryz.func165 ?_;refine sx7 ?_;refine m9 0 ?_;refine m9 1 ?_;refine w_3 ?_;have hra:=hrow a ha;have hrb:=hrow b hb;refine agu ?_;refine qy ?_;refine m9 2 ?_;refine w_9 ?_;refine qcx wz (vz (l.getD a default) (l.getD b default) (m.getD i default).lhs b5c b5c) ?_;refine w_2 ?_;refine hcv (fun h0=>?_) (fun h0=>?_)
 · refine v_4 ?_;exact ⟨ccb (by unfold a17;simp_all),trivial⟩
 refine w_3 ?_;refine m9 3 ?_;refine qy ?_;refine r9 4 true ?_;refine w_8 ?_;refine ce (ka 4 (ka 9 (ka 11 (ka 12 kn)))) (kb 0 (kb 2 km)) (fun j=>⟨[(13,some (vI j))],[(3,some (.arr true 1 3 (0 + (l.getD b default).length) (lf zC (iz (l.getD a default) (l.getD b default) (m.getD i default).rhs j))))]⟩) n.toNat ⟨tt,⟨⟨_,rfl,(aa6 (fun _ _=>rfl))⟩,trivial⟩⟩ ?_;rintro j hj;refine w_8 ?_;refine hcd (fun h1=>?_) (fun h1=>?_)
 ·
  refine w_8 ?_;refine qcx wh (aao (m.getD i default).rhs (j:Int)) ?_;refine ck ?_;refine hcb (fun h2=>?_) (fun h2=>?_)
  · refine w_5 ?_;(iterate 3 refine rq rfl rfl rfl rfl rfl ?_ (hp:=(by (try simp only [b2k,nM]);(repeat' apply And.intro) <;> first | trivial | rfl | omega | exact b27 rfl)));refine rs rfl rfl rfl rfl rfl ?_ (hp:=(by (try simp only [b2k,nM]);(repeat' apply And.intro) <;> first | trivial | rfl | omega | exact b27 rfl));refine w_6 ?_;exact lpx (j + 1) ⟨tt,⟨⟨_,rfl,b5y⟩,uu⟩⟩
  refine w_6 ?_;exact lpx (j + 1) ⟨tt,⟨⟨_,rfl,b5y⟩,uu⟩⟩
 obtain rfl:j = n.toNat:=by omega
 refine w_2 ?_;refine bo 12 rfl rfl rfl ?_;refine w_3 ?_;refine rc rfl rfl rfl rfl rfl rfl a0d (ze n l (cq (l.getD a default) (l.getD b default) (m.getD i default).rhs)) (⟨CoC.refl _,aeg b5s b5s,trivial⟩) rfl rfl ?_;refine v_3 ?_;exact ⟨ccb (by unfold a17;simp_all),trivial⟩
end
section
open Go.Proofs
def muK (p:List Fd) (k:Nat):Bool:=decide (p.length <= k)
def ixK (p:List Fd) (k:Nat):Nat:=if p.length <= k then k - p.length else k
def chE (l:List Rw) (p m:List Fd) (s:St):Bool:=if s.1 = true then a17 l (m.getD s.2.1 default) s.2.2.1 s.2.2.2 else d7 l (p.getD s.2.1 default) s.2.2.1 s.2.2.2
def cCh (n:Int) (l:List Rw) (p m:List Fd) (k a b:Nat) (hT:tok n l = true) (ha:a < l.length) (hb:b < l.length) (hk:k < p.length + m.length) :
 a8 b62 165 [pT n l,pP (fdl p),pP (fdl m),St.pc (muK p k,ixK p k,a,b)] (ah [pB (chE l p m (muK p k,ixK p k,a,b))]):=by
 obtain ⟨h0,h1,h2,h3⟩:=ew hT;by_cases h:p.length <= k
 · have e1:muK p k = true:=decide_eq_true h
   have e2:ixK p k = k - p.length:=if_pos h;rw [e1,e2];exact axu n l p m (k - p.length) a b h0 h1 h3 ha hb b5c
 have e1:muK p k = false:=decide_eq_false h;have e2:ixK p k = k:=if_neg h;rw [e1,e2];exact ay8 n l p m k a b h0 h1 h3 ha hb b5c
def fq (l:List Rw) (p m:List Fd) (k a b:Nat):Bool:=decide (a ≠ b) && chE l p m (muK p k,ixK p k,a,b)
def up (l:List Rw) (p m:List Fd):Option St:=(dp (fq l p m) (p.length + m.length) l.length).map fun x=>(muK p x.1,ixK p x.1,x.2.1,x.2.2)
section
variable {l:List Rw} {p m:List Fd} {k a b:Nat}
def ap2 (h:¬ a = b) (h2:chE l p m (muK p k,ixK p k,a,b) = true):fq l p m k a b = true:=by unfold fq;rw [decide_eq_true h,h2];rfl
def ab0 (h:a = b):fq l p m k a b = false:=by unfold fq;rw [decide_eq_false (fun e=>e h)];rfl
def acm (h2:chE l p m (muK p k,ixK p k,a,b) = false):fq l p m k a b = false:=by unfold fq;rw [h2,Bool.and_false]
def aq9 (h:dp (fq l p m) (p.length + m.length) l.length = some (k,a,b)):up l p m = some (muK p k,ixK p k,a,b):=by unfold up;rw [h];rfl
def aqx (h:dp (fq l p m) (p.length + m.length) l.length = none):up l p m = none:=by unfold up;rw [h];rfl
end
end
section
open Go.Proofs
def atp (n:Int) (l:List Rw) (p m:List Fd) (hT:tok n l = true) (hp:p.length <= 64) (hm:m.length <= 64):a8 b62 134 [pT n l,pP (fdl p),pP (fdl m)] (ah [St.pc ((up l p m).getD (false,0,0,0)),pB (up l p m).isSome]):=by
 refine hpx (nt:=66) Tryz.func134 ?_;refine c7 ?_;obtain ⟨hn0,hn16,hl256,hrow⟩:=ew hT;refine ca 1 rfl fun hn1=>?_;refine ca 2 rfl fun hn2=>?_;refine gy ?_;refine m9 0 ?_;refine m9 1 ?_;refine w_8 ?_;refine am (ι:=Nat) (ka 1 (ka 2 (ka 3 (ka 6 kn)))) (kb 0 (kb 1 km)) (fun k=>⟨[(8,some (vI k))],[]⟩) (fun k=>k <= p.length + m.length /\ ∀ i',i' < k -> ∀ a',a' < l.length -> ∀ b',b' < l.length -> fq l p m i' a' b' = false) (fun k=>p.length + m.length - k) (0) (⟨b2b _,bc⟩) kk ?_;rintro k ⟨hk,hK⟩;refine dn ?_;refine hcd (fun h0=>?_) (fun h0=>?_)
 ·
  refine w_7 ?_;refine m9 2 ?_;refine w_2 ?_;refine a4l (ka 1 (ka 2 (ka 3 (ka 6 (ka 8 (ka 9 kn)))))) (kb 0 (kb 1 km)) ⟨[],[(2,some (.box [.p (.raw (.bool (muK p k))), .p (.raw (.int .i64 (ixK p k:Int))), .p (.raw (.int .i64 0)), .p (.raw (.int .i64 0))]))]⟩ ?_ ?_
  ·
   refine w_7 ?_;refine hcd (fun h1=>?_) (fun h1=>?_)
   · refine w_8 ?_;exact ⟨tt,⟨⟨_,rfl,(by unfold muK ixK;first | (rw [decide_eq_true b5c,if_pos b5c];refine ⟨CoP.refl _,CoP.of_eq (by congr 2;omega),CoP.refl _,CoP.refl _,trivial⟩) | (rw [decide_eq_false b5c,if_neg b5c];exact ⟨CoP.refl _,CoP.refl _,CoP.refl _,CoP.refl _,trivial⟩))⟩,uu⟩⟩
   refine da ?_;exact ⟨tt,⟨⟨_,rfl,(by unfold muK ixK;first | (rw [decide_eq_true b5c,if_pos b5c];refine ⟨CoP.refl _,CoP.of_eq (by congr 2;omega),CoP.refl _,CoP.refl _,trivial⟩) | (rw [decide_eq_false b5c,if_neg b5c];exact ⟨CoP.refl _,CoP.refl _,CoP.refl _,CoP.refl _,trivial⟩))⟩,uu⟩⟩
  refine w_6 ?_;refine am (ι:=Nat × Nat) (ka 1 (ka 2 (ka 3 (ka 6 (ka 8 (ka 9 kn)))))) (kb 0 (kb 1 km)) (fun y=>⟨[],[(2,some (.box [.p (.raw (.bool (muK p k))), .p (.raw (.int .i64 (ixK p k:Int))), .p (.raw (.int .i64 (y.1:Int))), .p (.raw (.int .i64 (y.2:Int)))]))]⟩) (fun y=>y.1 <= l.length /\ ∀ a',a' < y.1 -> ∀ b',b' < l.length -> fq l p m k a' b' = false) (fun y=>l.length - y.1) ((0,0)) (⟨b2b _,bc⟩) kk ?_;rintro y ⟨hy,hA⟩;refine dm ?_;refine hcd (fun h2=>?_) (fun h2=>?_)
  ·
   refine w_9 ?_;refine am (ι:=Nat) (ka 1 (ka 2 (ka 3 (ka 6 (ka 8 (ka 9 kn)))))) (kb 0 (kb 1 km)) (fun b=>⟨[],[(2,some (.box [.p (.raw (.bool (muK p k))), .p (.raw (.int .i64 (ixK p k:Int))), .p (.raw (.int .i64 (y.1:Int))), .p (.raw (.int .i64 (b:Int)))]))]⟩) (fun b=>b <= l.length /\ ∀ b',b' < b -> fq l p m k y.1 b' = false) (fun b=>l.length - b) (0) (⟨b2b _,bc⟩) kk ?_;rintro b ⟨hb,hB⟩;refine dm ?_;refine hcd (fun h3=>?_) (fun h3=>?_)
   ·
    refine dn ?_;refine ag rfl rfl (fun r4=>?_) (fun r4=>?_)
    ·
     have h4:=tz2 (dq r4);(iterate 4 refine qy ?_ (hg:=(gtt r4)));refine qcx (wgx Tryz.func165) (cCh n l p m k y.1 b hT b5c b5c b5c) ?_ (hg:=(gtt r4));refine w_2 ?_;refine al _ rfl (fun r5=>?_) (fun r5=>?_)
     · have h5:=cn r4 r5;refine w_6 ?_;refine hrr ?_;have he:=aq9 (v6 (P:=fq l p m) (i:=k) (a:=y.1) (b:=b) b5c b5c b5c (ap2 b5c b5d) hK hA hB);exact f9 rfl rfl (by rw [he];exact CoL.refl _)
     have h5:=cn r4 r5;refine w_8 ?_;refine lpz (b + 1) kk ?_;exact ⟨by show b + 1 <= _;omega,az hB (by first | exact ab0 b5c | exact acm b5d)⟩
    have h4:=tz1 (dt r4);(iterate 5 refine k9 (gft r4) ?_);refine dn ?_;refine lpz (b + 1) kk ?_
    exact ⟨by show b + 1 <= _;omega,az hB (by first | exact ab0 b5c | exact acm b5d)⟩
   refine w_8 ?_;refine lpz (y.1 + 1,b) kk ?_;exact ⟨by show y.1 + 1 <= _;omega,az hA (fun b' hb'=>hB b' b5c)⟩
  refine w_6 ?_;refine lpz (k + 1) kk ?_;exact ⟨by show k + 1 <= _;omega,az hK (fun a' ha'=>hA a' b5c)⟩
 refine w_7 ?_;refine hrr ?_;have he:=aqx (vg (P:=fq l p m) (I:=p.length + m.length) (L:=l.length) fun j hj=>hK j b5c);exact f9 rfl rfl (by rw [he];exact CoL.refl _)
end
section
def u5 {α:Type} {f g:Nat -> Option α}:∀ {ks:List Nat},(∀ k,k ∈ ks -> f k = g k) -> ks.findSome? f = ks.findSome? g
 | [],_=>rfl
 | k :: ks,h=>by
  have h1:=h k b5f;have h2:=u5 (ks:=ks) fun j hj=>h j (by simp [hj]);simp only [List.findSome?_cons,h1,h2]
def a2t {p q:Nat -> Bool}:∀ {ks:List Nat},(∀ k,k ∈ ks -> p k = q k) -> ks.find? p = ks.find? q
 | [],_=>rfl
 | k :: ks,h=>by
  have h1:=h k b5f;have h2:=a2t (ks:=ks) fun j hj=>h j (by simp [hj]);simp only [List.find?_cons,h1,h2]
def aqe {s t:AS} {i:Nat}:ci (s ||| t) (i:Int) = (ci s (i:Int) || ci t (i:Int)):=by
 by_cases h:i < 32
 · rw [ge h,ge h,ge h,b4k]
 rw [u6 b5c,u6 b5c,u6 b5c];rfl
def aq6 {a b:Rw} {s t:AS} (hl:a.length = b.length) (h:gu a b s = true):cq a b t = cq a b (s ||| t):=by
 have h:=of_decide_eq_true h;unfold cq;refine b3x fun i hi=>?_;have hi:=b2v.1 hi;rw [aqe];by_cases h1:ci s (i:Int) = true
 · have:=h i b5c h1
   rw [h1,Bool.true_or,if_pos rfl];split
   · rfl
   exact this.symm
 rw [b2e.2 h1,Bool.false_or]
def alu (a:Rw) (s:AS):cq a a s = a:=by
 refine kx (iw a a s) fun j hj=>?_;rw [iw] at hj;unfold cq;rw [b26,b2p,b38 hj];show (if ci s (j:Int) = true then a.getD j default else a.getD j default) = _;split <;> rfl
section
variable {a:Nat} {l:List Rw}
def xj {x:Fd}:d7 l x a a = false:=a38 (w9 fun _ _ _=>rfl)
def xt {x:Fd} (ha:a < l.length):dg l x a a = false:=by
 refine a2g ?_;rw [alu,b3a];exact ⟨_,x2 ha,decide_eq_true rfl⟩
def amg {n:Int} {x:Fd} {b:Nat} (hT:tok n l = true) (ha:a < l.length) (hb:b < l.length):a17 l x a b = dg l x a b:=by
 obtain ⟨_,_,_,h3⟩:=ew hT;unfold a17 dg;by_cases h:gu (l.getD a default) (l.getD b default) x.lhs = true
 · rw [aq6 (by rw [h3 a ha,h3 b hb]) h]
 rw [b2e.2 h];rfl
def aq4 {p m:List Fd} {k b:Nat} (hk:k < p.length):fq l p m k a b = d7 l (p.getD k default) a b:=by
 have e1:muK p k = false:=decide_eq_false b5c;have e2:ixK p k = k:=if_neg b5c;unfold fq;rw [e1,e2];by_cases h:a = b
 · subst h;rw [xj,decide_eq_false (fun e=>e rfl)];rfl
 rw [decide_eq_true h];rfl
def ar2 {n:Int} {p m:List Fd} {k b:Nat} (hT:tok n l = true) (ha:a < l.length) (hb:b < l.length):fq l p m (p.length + k) a b = dg l (m.getD k default) a b:=by
 have e1:muK p (p.length + k) = true:=decide_eq_true b5c;have e2:ixK p (p.length + k) = k:=(if_pos b5c).trans b5c;unfold fq;rw [e1,e2];by_cases h:a = b
 · subst h;rw [xt ha,decide_eq_false (fun e=>e rfl)];rfl
 rw [decide_eq_true h,<- amg hT ha hb];rfl
def a3r {n:Int} {p m:List Fd} (hT:tok n l = true):up l p m = cz l p m:=by
 have e1:(List.range p.length).findSome? (fun i=>(List.range l.length).findSome? fun a=>((List.range l.length).find? fun b=>fq l p m i a b).map fun b=>(i,a,b)) = dp (fun i a b=>d7 l (p.getD i default) a b) p.length l.length :=
  u5 fun i hi=>u5 fun a _=>by rw [a2t fun b _=>aq4 (b2v.1 hi)]
 have e2:(List.range m.length).findSome? (fun i=>(List.range l.length).findSome? fun a=>((List.range l.length).find? fun b=>fq l p m (p.length + i) a b).map fun b=>(p.length + i,a,b)) = (dp (fun i a b=>dg l (m.getD i default) a b) m.length l.length).map fun x=>(p.length + x.1,x.2):=by
  unfold dp;rw [List.map_findSome?];refine u5 fun i _=>?_;show _ = Option.map _ ((List.range l.length).findSome? _);rw [List.map_findSome?];refine u5 fun a ha=>?_;rw [a2t fun b hb=>ar2 hT (b2v.1 ha) (b2v.1 hb)];show _ = Option.map _ (Option.map _ _);rw [Option.map_map];rfl
 have e:dp (fq l p m) (p.length + m.length) l.length = (dp (fun i a b=>d7 l (p.getD i default) a b) p.length l.length).or ((dp (fun i a b=>dg l (m.getD i default) a b) m.length l.length).map fun x=>(p.length + x.1,x.2)):=by
  rw [<- e1,<- e2];unfold dp;rw [List.range_add,List.findSome?_append,List.findSome?_map];rfl
 unfold up cz;rw [e]
 cases h:dp (fun i a b=>d7 l (p.getD i default) a b) p.length l.length with
 | some x =>
  obtain ⟨i,a,b⟩:=x;have hi:=(yd h).1;show some (muK p i,ixK p i,a,b) = some (false,i,a,b);rw [show muK p i = false from decide_eq_false b5c,show ixK p i = i from if_neg b5c]
 | none =>
  rw [Option.none_or]
  cases dp (fun i a b=>dg l (m.getD i default) a b) m.length l.length with
  | none=>rfl
  | some x =>
   obtain ⟨i,a,b⟩:=x;show some (muK p (p.length + i),ixK p (p.length + i),a,b) = some (true,i,a,b);rw [show muK p (p.length + i) = true from decide_eq_true b5c,show ixK p (p.length + i) = i from (if_pos b5c).trans b5c]
end
end
section
def ep (l:List Rw) (p m:List Fd) (mu:Bool) (i a b:Int):Prop:=a < 0 \/ (l.length:Int) <= a \/ b < 0 \/ (l.length:Int) <= b \/ a = b \/ i < 0 \/ (mu = true /\ (m.length:Int) <= i) \/ (mu = false /\ (p.length:Int) <= i)
instance (l:List Rw) (p m:List Fd) (mu:Bool) (i a b:Int):Decidable (ep l p m mu i a b):=by unfold ep;infer_instance
def bdS {l:List Rw} {p m:List Fd} {mu:Bool} {i a b:Int} (h:ep l p m mu i a b:=by unfold ep;first | exact .inl b5c | exact .inr (.inl b5c) | exact .inr (.inr (.inl b5c)) | exact .inr (.inr (.inr (.inl b5c))) | exact .inr (.inr (.inr (.inr (.inl b5c)))) | exact .inr (.inr (.inr (.inr (.inr (.inl b5c))))) | exact .inr (.inr (.inr (.inr (.inr (.inr (.inl ⟨by first | rfl | assumption | simp_all,by omega⟩)))))) | exact .inr (.inr (.inr (.inr (.inr (.inr (.inr ⟨by first | rfl | assumption | simp_all,by omega⟩))))))):ep l p m mu i a b:=h
def bw (n:Int) (l:List Rw) (p m:List Fd) (mu:Bool) (i a b:Int):Int × List Rw × Int :=
 if ckE n l p m = 0 then if ep l p m mu i a b then (0,[],1) else bu n l p m (mu,i.toNat,a.toNat,b.toNat) else (0,[],ckE n l p m)
section
variable {n:Int} {l:List Rw} {p m:List Fd} {mu:Bool} {i a b:Int}
def abd (h:tok n l = false):bw n l p m mu i a b = (0,[],1):=by
 have e:ckE n l p m = 1:=if_neg (by rw [h];decide);unfold bw;rw [e];rfl
def a9c (h:tok n l = true) (h2:¬ bj n p m = 0):bw n l p m mu i a b = (0,[],bj n p m):=by
 have e:ckE n l p m = bj n p m:=if_pos h;unfold bw;rw [e,if_neg h2]
def f8 (h:tok n l = true) (h2:bj n p m = 0) (h3:ep l p m mu i a b):bw n l p m mu i a b = (0,[],1):=by
 have e:ckE n l p m = bj n p m:=if_pos h;unfold bw;rw [e,if_pos h2,if_pos h3]
def x5 (h:tok n l = true) (h2:bj n p m = 0) (h3:¬ ep l p m mu i a b):bw n l p m mu i a b = bu n l p m (mu,i.toNat,a.toNat,b.toNat):=by
 have e:ckE n l p m = bj n p m:=if_pos h;unfold bw;rw [e,if_pos h2,if_neg h3]
end
end
section
open Go.Proofs
def ab1:goodFn b62 85:=wgx Tryz.func85
def ac1 (n:Int) (l:List Rw) (p m:List Fd) (i a b:Int):a8 b62 85 [pT n l,pP (fdl p),pP (fdl m), .agg [.raw (.bool true), .raw (.int .i64 i), .raw (.int .i64 a), .raw (.int .i64 b)]] (ah [pT (bw n l p m true i a b).1 (bw n l p m true i a b).2.1,pI (bw n l p m true i a b).2.2]):=by
 refine hpx (nt:=158) Tryz.func85 ?_;refine sx7 ?_;refine m9 0 ?_;refine m9 1 ?_;refine m9 2 ?_;refine w_6 ?_;refine qcx a6a (a3d n l) ?_;refine w_2 ?_;refine hcv (fun h0=>?_) (fun h0=>?_)
 · refine w_6 ?_;refine hrr ?_;have he:=abd (n:=n) (l:=l) (p:=p) (m:=m) (mu:=true) (i:=i) (a:=a) (b:=b) b5h;exact f9 rfl rfl (by rw [he];exact ⟨CoC.agg ⟨CoP.refl _,aw,trivial⟩,CoC.refl _,trivial⟩)
 have hT:tok n l = true:=by simp_all
 obtain ⟨hn0,hn16,hl256,hrow⟩:=ew hT;refine w_8 ?_;refine qcx zz (t8 n p m) ?_;refine w_7 ?_;refine hcn (fun h1=>?_) (fun h1=>?_)
 · refine w_7 ?_;refine hrr ?_;have he:=a9c (mu:=true) (i:=i) (a:=a) (b:=b) hT b5d;exact f9 rfl rfl (by rw [he];exact ⟨CoC.agg ⟨CoP.refl _,aw,trivial⟩,CoC.refl _,trivial⟩)
 have hbe:bj n p m = 0:=by assumption
 obtain ⟨_,_,hpl,hpa,hml,_⟩:=ov hbe;refine ml ?_;refine ag rfl rfl (fun r2=>?_) (fun r2=>?_)
 ·
  have h2:=tz1 r2;(iterate 4 refine k9 (gtf r2) ?_);refine w_2 ?_;(iterate 3 refine k9 rfl ?_);refine w_2 ?_;(iterate 4 refine k9 rfl ?_);refine w_2 ?_;(iterate 5 refine k9 rfl ?_);refine w_2 ?_;(iterate 3 refine k9 rfl ?_);refine w_2 ?_
  (iterate 9 refine k9 rfl ?_);refine w_2 ?_;(iterate 10 refine k9 rfl ?_);refine w_9 ?_;refine hrr ?_
  have he:=f8 (mu:=true) (i:=i) (a:=a) (b:=b) hT hbe bdS;exact f9 rfl rfl (by rw [he];exact ⟨CoC.agg ⟨CoP.refl _,aw,trivial⟩,CoC.refl _,trivial⟩)
 have h2:=tz2 r2;(iterate 4 refine qy ?_ (hg:=(gff r2)));refine w_2 ?_;refine ag rfl rfl (fun r3=>?_) (fun r3=>?_)
 ·
  have h3:=tz1 (af r2 r3);(iterate 3 refine k9 (gtf r3) ?_);refine w_2 ?_;(iterate 4 refine k9 rfl ?_);refine w_2 ?_;(iterate 5 refine k9 rfl ?_);refine w_2 ?_;(iterate 3 refine k9 rfl ?_);refine w_2 ?_;(iterate 9 refine k9 rfl ?_);refine w_2 ?_
  (iterate 10 refine k9 rfl ?_);refine w_9 ?_;refine hrr ?_
  have he:=f8 (mu:=true) (i:=i) (a:=a) (b:=b) hT hbe bdS;exact f9 rfl rfl (by rw [he];exact ⟨CoC.agg ⟨CoP.refl _,aw,trivial⟩,CoC.refl _,trivial⟩)
 have h3:=tz2 (af r2 r3);(iterate 3 refine qy ?_ (hg:=(gff r3)));refine w_2 ?_;refine ag rfl rfl (fun r4=>?_) (fun r4=>?_)
 ·
  have h4:=tz1 (af r3 r4);(iterate 4 refine k9 (gtf r4) ?_);refine w_2 ?_;(iterate 5 refine k9 rfl ?_);refine w_2 ?_;(iterate 3 refine k9 rfl ?_);refine w_2 ?_;(iterate 9 refine k9 rfl ?_);refine w_2 ?_;(iterate 10 refine k9 rfl ?_)
  refine w_9 ?_;refine hrr ?_;have he:=f8 (mu:=true) (i:=i) (a:=a) (b:=b) hT hbe bdS;exact f9 rfl rfl (by rw [he];exact ⟨CoC.agg ⟨CoP.refl _,aw,trivial⟩,CoC.refl _,trivial⟩)
 have h4:=tz2 (af r3 r4);(iterate 4 refine qy ?_ (hg:=(gff r4)));refine w_2 ?_;refine ag rfl rfl (fun r5=>?_) (fun r5=>?_)
 ·
  have h5:=tz1 (af r4 r5);(iterate 5 refine k9 (gtf r5) ?_);refine w_2 ?_;(iterate 3 refine k9 rfl ?_);refine w_2 ?_;(iterate 9 refine k9 rfl ?_);refine w_2 ?_;(iterate 10 refine k9 rfl ?_);refine w_9 ?_;refine hrr ?_
  have he:=f8 (mu:=true) (i:=i) (a:=a) (b:=b) hT hbe bdS;exact f9 rfl rfl (by rw [he];exact ⟨CoC.agg ⟨CoP.refl _,aw,trivial⟩,CoC.refl _,trivial⟩)
 have h5:=tz2 (af r4 r5);(iterate 5 refine qy ?_ (hg:=(gff r5)));refine w_2 ?_;refine ag rfl rfl (fun r6=>?_) (fun r6=>?_)
 ·
  have h6:=tz1 (af r5 r6);(iterate 3 refine k9 (gtf r6) ?_);refine w_2 ?_;(iterate 9 refine k9 rfl ?_);refine w_2 ?_;(iterate 10 refine k9 rfl ?_);refine w_9 ?_;refine hrr ?_
  have he:=f8 (mu:=true) (i:=i) (a:=a) (b:=b) hT hbe bdS;exact f9 rfl rfl (by rw [he];exact ⟨CoC.agg ⟨CoP.refl _,aw,trivial⟩,CoC.refl _,trivial⟩)
 have h6:=tz2 (af r5 r6);(iterate 3 refine qy ?_ (hg:=(gff r6)));refine w_2 ?_;refine ag rfl rfl (fun r7=>?_) (fun r7=>?_)
 ·
  have h7:=tz1 (af r6 r7);(iterate 3 refine k9 (gtf r7) ?_);(iterate 5 refine k9 rfl ?_);refine k9 (gtf r7) ?_;refine w_2 ?_;(iterate 10 refine k9 rfl ?_);refine w_9 ?_;refine hrr ?_
  have he:=f8 (mu:=true) (i:=i) (a:=a) (b:=b) hT hbe bdS;exact f9 rfl rfl (by rw [he];exact ⟨CoC.agg ⟨CoP.refl _,aw,trivial⟩,CoC.refl _,trivial⟩)
 have h7:=tz2 (af r6 r7);(iterate 3 refine qy ?_ (hg:=(gff r7)));refine w_5 ?_;refine qy ?_ (hg:=(gff r7));refine w_2 ?_;refine ag rfl rfl (fun r8=>?_) (fun r8=>?_)
 ·
  have h8:=tz1 (af r7 r8);(iterate 4 refine k9 (gtf r8) ?_);(iterate 5 refine k9 rfl ?_);refine k9 (gtf r8) ?_;refine w_9 ?_;refine hrr ?_
  have he:=f8 (mu:=true) (i:=i) (a:=a) (b:=b) hT hbe bdS;exact f9 rfl rfl (by rw [he];exact ⟨CoC.agg ⟨CoP.refl _,aw,trivial⟩,CoC.refl _,trivial⟩)
 have h8:=tz2 (af r7 r8);(iterate 4 refine qy ?_ (hg:=(gff r8)));(iterate 5 refine k9 rfl ?_);refine qy ?_ (hg:=(gff r8));refine w_2 ?_;refine al _ rfl (fun e=>Bool.noConfusion ((qg r8 rfl).symm.trans e)) (fun _=>?_);refine w_2 ?_
 have hnb:¬ ep l p m true i a b:=by
  unfold ep;rintro (h | h | h | h | h | h | ⟨h,h2⟩ | ⟨h,h2⟩) <;> first | omega | cases h
 have hap:=x5 (mu:=true) (i:=i) (a:=a) (b:=b) hT hbe hnb;have ha:a.toNat < l.length:=by omega
 have hb:b.toNat < l.length:=by omega
 have hra:=hrow _ ha;have hrb:=hrow _ hb;have hi:i.toNat < m.length:=by omega
 refine gy ?_;refine m9 3 ?_;refine al9 ?_;refine qcx wz (vz (l.getD a.toNat default) (l.getD b.toNat default) (m.getD i.toNat default).lhs b5c b5c) ?_;refine w_3 ?_;refine hcv (fun h9=>?_) (fun h9=>?_)
 · refine w_6 ?_;refine hrr ?_;have he:=hap.trans (show mvE n l a.toNat b.toNat (m.getD i.toNat default) = (0,[],1) from if_neg (b2e.1 b5d));exact f9 rfl rfl (by rw [he];exact ⟨CoC.agg ⟨CoP.refl _,aw,trivial⟩,CoC.refl _,trivial⟩)
 refine pe ?_;refine rc rfl rfl rfl rfl rfl rfl (wgx Tryz.func123) (aw5 n l (m.getD i.toNat default) a.toNat b.toNat hn0 hn16 hrow b5c ha hb) (⟨CoC.refl _,CoC.refl _,cci b5c,cci b5c,trivial⟩) rfl rfl ?_;refine dn ?_;refine hcd (fun h10=>?_) (fun h10=>?_)
 · refine w_6 ?_;refine hrr ?_;have he:=hap.trans (show mvE n l a.toNat b.toNat (m.getD i.toNat default) = (0,[],3) from (if_pos b5d).trans (if_pos b5c));exact f9 rfl rfl (by rw [he];exact ⟨CoC.agg ⟨CoP.refl _,aw,trivial⟩,CoC.refl _,trivial⟩)
 refine w_7 ?_;refine hrr ?_;have he:=hap.trans (show mvE n l a.toNat b.toNat (m.getD i.toNat default) = (n,ae (l ++ [cq (l.getD a.toNat default) (l.getD b.toNat default) ((m.getD i.toNat default).lhs ||| (m.getD i.toNat default).rhs)]),0) from (if_pos b5d).trans (if_neg b5c));exact f9 rfl rfl (by rw [he];exact CoL.refl _)
def a9x (n:Int) (l:List Rw) (p m:List Fd) (i a b:Int):a8 b62 85 [pT n l,pP (fdl p),pP (fdl m), .agg [.raw (.bool false), .raw (.int .i64 i), .raw (.int .i64 a), .raw (.int .i64 b)]] (ah [pT (bw n l p m false i a b).1 (bw n l p m false i a b).2.1,pI (bw n l p m false i a b).2.2]):=by
 refine hpx (nt:=158) Tryz.func85 ?_;refine sx7 ?_;refine m9 0 ?_;refine m9 1 ?_;refine m9 2 ?_;refine w_6 ?_;refine qcx a6a (a3d n l) ?_;refine w_2 ?_;refine hcv (fun h0=>?_) (fun h0=>?_)
 · refine w_6 ?_;refine hrr ?_;have he:=abd (n:=n) (l:=l) (p:=p) (m:=m) (mu:=false) (i:=i) (a:=a) (b:=b) b5h;exact f9 rfl rfl (by rw [he];exact ⟨CoC.agg ⟨CoP.refl _,aw,trivial⟩,CoC.refl _,trivial⟩)
 have hT:tok n l = true:=by simp_all
 obtain ⟨hn0,hn16,hl256,hrow⟩:=ew hT;refine w_8 ?_;refine qcx zz (t8 n p m) ?_;refine w_7 ?_;refine hcn (fun h1=>?_) (fun h1=>?_)
 · refine w_7 ?_;refine hrr ?_;have he:=a9c (mu:=false) (i:=i) (a:=a) (b:=b) hT b5d;exact f9 rfl rfl (by rw [he];exact ⟨CoC.agg ⟨CoP.refl _,aw,trivial⟩,CoC.refl _,trivial⟩)
 have hbe:bj n p m = 0:=by assumption
 obtain ⟨_,_,hpl,hpa,hml,_⟩:=ov hbe;refine ml ?_;refine ag rfl rfl (fun r2=>?_) (fun r2=>?_)
 ·
  have h2:=tz1 r2;(iterate 4 refine k9 (gtf r2) ?_);refine w_2 ?_;(iterate 3 refine k9 rfl ?_);refine w_2 ?_;(iterate 4 refine k9 rfl ?_);refine w_2 ?_;(iterate 5 refine k9 rfl ?_);refine w_2 ?_;(iterate 3 refine k9 rfl ?_);refine w_2 ?_
  (iterate 9 refine k9 rfl ?_);refine w_2 ?_;(iterate 10 refine k9 rfl ?_);refine w_9 ?_;refine hrr ?_
  have he:=f8 (mu:=false) (i:=i) (a:=a) (b:=b) hT hbe bdS;exact f9 rfl rfl (by rw [he];exact ⟨CoC.agg ⟨CoP.refl _,aw,trivial⟩,CoC.refl _,trivial⟩)
 have h2:=tz2 r2;(iterate 4 refine qy ?_ (hg:=(gff r2)));refine w_2 ?_;refine ag rfl rfl (fun r3=>?_) (fun r3=>?_)
 ·
  have h3:=tz1 (af r2 r3);(iterate 3 refine k9 (gtf r3) ?_);refine w_2 ?_;(iterate 4 refine k9 rfl ?_);refine w_2 ?_;(iterate 5 refine k9 rfl ?_);refine w_2 ?_;(iterate 3 refine k9 rfl ?_);refine w_2 ?_;(iterate 9 refine k9 rfl ?_);refine w_2 ?_
  (iterate 10 refine k9 rfl ?_);refine w_9 ?_;refine hrr ?_
  have he:=f8 (mu:=false) (i:=i) (a:=a) (b:=b) hT hbe bdS;exact f9 rfl rfl (by rw [he];exact ⟨CoC.agg ⟨CoP.refl _,aw,trivial⟩,CoC.refl _,trivial⟩)
 have h3:=tz2 (af r2 r3);(iterate 3 refine qy ?_ (hg:=(gff r3)));refine w_2 ?_;refine ag rfl rfl (fun r4=>?_) (fun r4=>?_)
 ·
  have h4:=tz1 (af r3 r4);(iterate 4 refine k9 (gtf r4) ?_);refine w_2 ?_;(iterate 5 refine k9 rfl ?_);refine w_2 ?_;(iterate 3 refine k9 rfl ?_);refine w_2 ?_;(iterate 9 refine k9 rfl ?_);refine w_2 ?_;(iterate 10 refine k9 rfl ?_)
  refine w_9 ?_;refine hrr ?_;have he:=f8 (mu:=false) (i:=i) (a:=a) (b:=b) hT hbe bdS;exact f9 rfl rfl (by rw [he];exact ⟨CoC.agg ⟨CoP.refl _,aw,trivial⟩,CoC.refl _,trivial⟩)
 have h4:=tz2 (af r3 r4);(iterate 4 refine qy ?_ (hg:=(gff r4)));refine w_2 ?_;refine ag rfl rfl (fun r5=>?_) (fun r5=>?_)
 ·
  have h5:=tz1 (af r4 r5);(iterate 5 refine k9 (gtf r5) ?_);refine w_2 ?_;(iterate 3 refine k9 rfl ?_);refine w_2 ?_;(iterate 9 refine k9 rfl ?_);refine w_2 ?_;(iterate 10 refine k9 rfl ?_);refine w_9 ?_;refine hrr ?_
  have he:=f8 (mu:=false) (i:=i) (a:=a) (b:=b) hT hbe bdS;exact f9 rfl rfl (by rw [he];exact ⟨CoC.agg ⟨CoP.refl _,aw,trivial⟩,CoC.refl _,trivial⟩)
 have h5:=tz2 (af r4 r5);(iterate 5 refine qy ?_ (hg:=(gff r5)));refine w_2 ?_;refine ag rfl rfl (fun r6=>?_) (fun r6=>?_)
 ·
  have h6:=tz1 (af r5 r6);(iterate 3 refine k9 (gtf r6) ?_);refine w_2 ?_;(iterate 9 refine k9 rfl ?_);refine w_2 ?_;(iterate 10 refine k9 rfl ?_);refine w_9 ?_;refine hrr ?_
  have he:=f8 (mu:=false) (i:=i) (a:=a) (b:=b) hT hbe bdS;exact f9 rfl rfl (by rw [he];exact ⟨CoC.agg ⟨CoP.refl _,aw,trivial⟩,CoC.refl _,trivial⟩)
 have h6:=tz2 (af r5 r6);(iterate 3 refine qy ?_ (hg:=(gff r6)));refine w_2 ?_;refine ag rfl rfl (fun r7=>?_) (fun r7=>?_)
 ·
  have h7:=tz1 (af r6 r7);(iterate 3 refine k9 (gtf r7) ?_);(iterate 5 refine k9 rfl ?_);refine k9 (gtf r7) ?_;refine w_2 ?_;(iterate 10 refine k9 rfl ?_);refine w_9 ?_;refine hrr ?_
  have he:=f8 (mu:=false) (i:=i) (a:=a) (b:=b) hT hbe bdS;exact f9 rfl rfl (by rw [he];exact ⟨CoC.agg ⟨CoP.refl _,aw,trivial⟩,CoC.refl _,trivial⟩)
 have h7:=tz2 (af r6 r7);(iterate 3 refine qy ?_ (hg:=(gff r7)));(iterate 5 refine k9 rfl ?_);refine qy ?_ (hg:=(gff r7));refine w_2 ?_;(iterate 4 refine rq rfl rfl rfl rfl (gff (qg r7 rfl)) ?_);refine w_5 ?_
 refine rq rfl rfl rfl rfl (gff (qg r7 rfl)) ?_;refine w_2 ?_;refine al _ rfl (fun r8=>?_) (fun r8=>?_)
 · have h8:=tz1 (af (qg r7 rfl) r8);refine w_6 ?_;refine hrr ?_;have he:=f8 (mu:=false) (i:=i) (a:=a) (b:=b) hT hbe bdS;exact f9 rfl rfl (by rw [he];exact ⟨CoC.agg ⟨CoP.refl _,aw,trivial⟩,CoC.refl _,trivial⟩)
 have h8:=tz2 (af (qg r7 rfl) r8);refine w_2 ?_
 have hnb:¬ ep l p m false i a b:=by
  unfold ep;rintro (h | h | h | h | h | h | ⟨h,h2⟩ | ⟨h,h2⟩) <;> first | omega | cases h
 have hap:=x5 (mu:=false) (i:=i) (a:=a) (b:=b) hT hbe hnb;have ha:a.toNat < l.length:=by omega
 have hb:b.toNat < l.length:=by omega
 have hra:=hrow _ ha;have hrb:=hrow _ hb;have hi:i.toNat < p.length:=by omega
 have hu:inU n (p.getD i.toNat default) = true:=b3d.1 hpa _ (by rw [b26,b25 hi];exact b2l hi);refine gy ?_;refine m9 3 ?_;refine al9 ?_;refine qcx wz (vz (l.getD a.toNat default) (l.getD b.toNat default) (p.getD i.toNat default).lhs b5c b5c) ?_;refine w_3 ?_;refine hcv (fun h9=>?_) (fun h9=>?_)
 · refine w_6 ?_;refine hrr ?_;have he:=hap.trans (show fdE n l a.toNat b.toNat (p.getD i.toNat default) = (0,[],1) from if_neg (b2e.1 b5d));exact f9 rfl rfl (by rw [he];exact ⟨CoC.agg ⟨CoP.refl _,aw,trivial⟩,CoC.refl _,trivial⟩)
 refine mj ?_;refine rc rfl rfl rfl rfl rfl rfl (wgx Tryz.func124) (als n l (p.getD i.toNat default).rhs a.toNat b.toNat hn0 hn16 hrow b5c ha hb (fun j hj=>a0v hn0 hn16 hu hj)) (⟨CoC.refl _,CoC.refl _,cci b5c,cci b5c,trivial⟩) rfl rfl ?_;refine dn ?_;refine hcd (fun h10=>?_) (fun h10=>?_)
 · refine w_6 ?_;refine hrr ?_;have hx:=b37 (uj (cj l (eqMs (be l) a.toNat b.toNat (b6 (p.getD i.toNat default).rhs)))) (b4v (i9 _ _));exact f9 rfl rfl (by exfalso;omega)
 refine w_7 ?_;refine hrr ?_;have he:=hap.trans (show fdE n l a.toNat b.toNat (p.getD i.toNat default) = (n,ae (cj l (eqMs (be l) a.toNat b.toNat (b6 (p.getD i.toNat default).rhs))),0) from if_pos b5d);exact f9 rfl rfl (by rw [he];exact CoL.refl _)
end
section
open Go.Proofs
def aj0 (l:List Rw) (hl:∀ i,i < l.length -> (l.getD i default).length <= 17592186044416) (hl2:l.length <= 5864062014805):a8 b62 133 [pR l] (ah [pR l]) :=
 c4.pure (args:=[pR l]) (l:=[.one (.ref 901 l.length)]) (a9m l hl hl2) rfl ⟨rfl,trivial⟩
def a7y (n:Int) (l:List Rw) (p m:List Fd) (s:St) (hck:ckE n l p m = 0) (h:qo l p m s) :
 a8 b62 85 [pT n l,pP (fdl p),pP (fdl m),s.pc] (ah [pT (bu n l p m s).1 (bu n l p m s).2.1,pI (bu n l p m s).2.2]):=by
 obtain ⟨mu,i,a,b⟩:=s;obtain ⟨ha,hb,h⟩:=h;obtain ⟨hT,hbe,_⟩:=a5a hck;have ha:a < l.length:=ha;have hb:b < l.length:=hb
 have hne:¬ a = b:=by
  rintro rfl
  rcases h with ⟨_,_,h⟩ | ⟨_,_,h⟩
  · rw [show d7 l (p.getD i default) a a = false from xj] at h;cases h
  rw [show dg l (m.getD i default) a a = false from xt ha] at h;cases h
 rcases h with ⟨h1,h2,_⟩ | ⟨h1,h2,_⟩
 · cases h1
   have h2:i < p.length:=h2
   have e:=x5 (mu:=false) (i:=(i:Int)) (a:=(a:Int)) (b:=(b:Int)) hT hbe (by
    unfold ep
    rintro (h | h | h | h | h | h | ⟨h,h3⟩ | ⟨h,h3⟩) <;> first | omega | cases h)
   simp only [b2k] at e;have hh:=a9x n l p m i a b;rw [e] at hh;exact hh
 cases h1;have h2:i < m.length:=h2
 have e:=x5 (mu:=true) (i:=(i:Int)) (a:=(a:Int)) (b:=(b:Int)) hT hbe (by
  unfold ep
  rintro (h | h | h | h | h | h | ⟨h,h3⟩ | ⟨h,h3⟩) <;> first | omega | cases h)
 simp only [b2k] at e;have hh:=ac1 n l p m i a b;rw [e] at hh;exact hh
end
section
open Go.Proofs
def as4 (F:Nat) (n:Int) (l:List Rw) (p m:List Fd) (hF:tok n l = true -> muC l.flatten l < F) (hFb:F <= 4000000000):a8 b62 92 [pT n l,pP (fdl p),pP (fdl m)] (ah [pP (stl (fh F n l p m).1),pT (fh F n l p m).2.1.1 (fh F n l p m).2.1.2,pI (fh F n l p m).2.2]):=by
 refine hpx (nt:=63) Tryz.func92 ?_;refine sx7 ?_;refine m9 0 ?_;refine qy ?_;refine m9 1 ?_;refine w_6 ?_;refine qcx a6a (a3d n l) ?_;refine w_2 ?_;refine hcv (fun h0=>?_) (fun h0=>?_)
 · refine w_7 ?_;refine hrr ?_;have hk1:ckE n l p m = 1:=if_neg b5h;have he:=a3m (F:=F) (n:=n) (l:=l) (p:=p) (m:=m) b5c;exact f9 rfl rfl (by rw [he,hk1];exact ⟨CoC.one (CoP.sl rfl (.inr rfl) (fun _=>rfl) (fun i j hi _=>absurd hi (b2c i))),CoC.agg ⟨CoP.refl _,aw,trivial⟩,CoC.refl _,trivial⟩)
 have hT:tok n l = true:=by simp_all
 refine w_8 ?_;refine qcx zz (t8 n p m) ?_;refine w_7 ?_;refine hcn (fun h1=>?_) (fun h1=>?_)
 · refine w_8 ?_;refine hrr ?_;have hk1:ckE n l p m = bj n p m:=if_pos hT;have he:=a3m (F:=F) (n:=n) (l:=l) (p:=p) (m:=m) (by rw [hk1];assumption);exact f9 rfl rfl (by rw [he,hk1];exact ⟨CoC.one (CoP.sl rfl (.inr rfl) (fun _=>rfl) (fun i j hi _=>absurd hi (b2c i))),CoC.agg ⟨CoP.refl _,aw,trivial⟩,CoC.refl _,trivial⟩)
 have hbe:bj n p m = 0:=by assumption
 have hck:ckE n l p m = 0:=(if_pos hT).trans hbe;obtain ⟨hn0,hn16,hpl,hpa,hml,_⟩:=ov hbe;obtain ⟨_,_,hl256,hrow⟩:=ew hT;have hbig:∀ i,i < l.length -> (l.getD i default).length <= 17592186044416:=fun i hi=>by rw [hrow i hi];omega
 refine w_7 ?_;refine qcx a7d (aj0 l hbig b5c) ?_;refine qy ?_;refine m9 2 ?_;refine w_7 ?_;refine fe 11 900 true 4 85 (lf St.c []) b5i rfl (CoP.sl rfl (.inr rfl) (fun h=>h) (fun i j hi _=>absurd hi (b2c i))) (.inr rfl) rfl ?_;refine a2q ?_;refine am (ι:=Nat × List Rw × List St) (ka 1 (ka 2 (ka 7 (ka 10 kn)))) (kb 1 km) (fun x=>⟨[(11,some (.v (.one (.ref 900 x.2.2.length))))],[(2,some (.box [.p (.raw (.int .i64 n)), .p (rl x.2.1)])),(900,some (.arr true 4 85 x.2.2.length (lf St.c x.2.2)))]⟩) (fun x=>StI F n l p m x) (fun x=>x.1) ((F,l,[])) (StI.start hT (hF hT)) kk ?_;rintro x hX;have hXu:=hX.u;have hXb:=hX.b;refine w_6 ?_;refine qcx (wgx Tryz.func134) ((a3r (p:=p) (m:=m) hX.t ▸ atp n x.2.1 p m hX.t hpl hml)) ?_;refine w_3 ?_;refine m9 3 ?_;refine w_9 ?_;refine hcv (fun h2=>?_) (fun h2=>?_)
 · have hS:=aer (by simpa [a3r hX.t] using h2);refine w_9 ?_;refine bo 6 rfl rfl rfl ?_;refine hrr ?_;have he:=(oo hck).trans (hX.fin hS);exact f9 rfl rfl (by rw [he];exact CoL.refl _)
 have hS:=ae8 (false,0,0,0) (by simpa [a3r hX.t] using h2);refine w_7 ?_;refine qcx ab1 (a7y n x.2.1 p m ((cz x.2.1 p m).getD (false,0,0,0)) ((if_pos hX.t).trans hbe) (a19 hS)) ?_;refine w_3 ?_;refine m9 4 ?_;refine w_9 ?_;refine hcn (fun h3=>?_) (fun h3=>?_)
 · refine w_8 ?_;refine hrr ?_;have he:=(oo hck).trans (hX.err hS b5d);exact f9 rfl rfl (by rw [he];exact ⟨CoC.one (CoP.sl rfl (.inr rfl) (fun _=>rfl) (fun i j hi _=>absurd hi (b2c i))),CoC.agg ⟨CoP.refl _,aw,trivial⟩,CoC.refl _,trivial⟩)
 have hnx:=hX.next hpa hS b5d
 refine w_4 ?_;refine m9 5 ?_;refine r9 6 true ?_;refine w_5 ?_;refine ⟨(x.1 - 1,(bu n x.2.1 p m ((cz x.2.1 p m).getD (false,0,0,0))).2.1,x.2.2 ++ [((cz x.2.1 p m).getD (false,0,0,0))]), ?_, ?_, ?_⟩
 · exact hnx.2
 · show x.1 - 1 < x.1
   omega
 exact ⟨⟨⟨_,rfl,(ju rfl)⟩,tt⟩,⟨⟨_,rfl,⟨CoP.of_eq (by rw [hnx.1]),CoH.refl _,trivial⟩⟩,⟨_,rfl,(vv rfl (fun j hj=>by match j,hj with | 0,_=>exact CoP.refl _ | 1,_=>exact CoP.refl _ | 2,_=>exact CoP.refl _ | 3,_=>exact CoP.refl _) rfl)⟩,uu⟩⟩
end
end Go.Hx

/- A part of the proof: X21 X22 X23 Ch19 X24 Ch20 Ch21 X27 Ch23 X28. -/
import Derived.Test.YteklilhbjjofbaaGreatDoorLa23
set_option linter.all false
set_option maxRecDepth 100000
set_option maxHeartbeats 1000000
namespace Go.Hx
section
open Go.Proofs
def amj (n:Int) (l:List Rw) (s:AS) (a b:Nat) (h0:0 <= n) (h1:n <= 16) (hrow:∀ i,i < l.length -> (l.getD i default).length = n.toNat) (hl2:l.length <= 4294967296) (ha:a < l.length) (hb:b < l.length) (hs:∀ j,j ∈ b6 s -> j < n.toNat):a8 b6e 124 [pT n l,pA s,pI (a:Int),pI (b:Int)] (aa [pT n (ae (cg l (eqMs (bd l) a b (b6 s))))]):=by
 refine hpx (nt:=88) Tryz.func124 ?_;refine sx7 ?_;refine m9 0 ?_;refine m9 1 ?_;refine w_5 ?_;refine fc9 a72 (aji l (fun i hi=>by rw [hrow i hi];omega) b5o) trivial ?_;refine w_8 ?_;refine bw (ka 1 (ka 2 (ka 3 (ka 4 (ka 8 (ka 9 kn)))))) (kb 0 (kb 1 km)) (fun j=>⟨[(10,some (vI j))],[(901,some (.nest 97 3 1 l.length (fun i=>(l.getD i default).length) (mg (eqMs (bd l) a b (eg s j))) none))]⟩) n.toNat kk ?_;rintro j hj;refine w_2 ?_;have hra:=hrow a ha;have hrb:=hrow b hb;refine w_6 ?_;refine hcd (fun h0=>?_) (fun h0=>?_)
 ·
  refine dh ?_;(iterate 2 refine rq rfl rfl rfl rfl rfl ?_ (hp:=(by (try simp only [b34,nM]);(repeat' apply And.intro) <;> first | trivial | rfl | omega | exact b2u rfl)));refine w_5 ?_;(iterate 2 refine rq rfl rfl rfl rfl rfl ?_ (hp:=(by (try simp only [b34,nM]);(repeat' apply And.intro) <;> first | trivial | rfl | omega | exact b2u rfl)));refine w_9 ?_
  refine qcx wl (a9w s (j:Int)) ?_;refine w_2 ?_;refine ag rfl rfl (fun r1=>?_) (fun r1=>?_)
  ·
   have h1:=cz r1;(iterate 3 refine k9 (gtf r1) ?_);refine w_9 ?_
   exact lpx (j + 1) ⟨tt,⟨⟨_,rfl,(by first | (rw [a0v b5o b5p];exact CoO.refl _) | (rw [s5 b5o b5p,mt,pf b5p];exact CoO.refl _) | (rw [s5 b5o b5p,mt];exact mq (sw b5o)))⟩,uu⟩⟩
  have h1:=cu r1;(iterate 3 refine qy ?_ (hg:=(gff r1)));refine w_2 ?_;refine ai _ rfl (fun r2=>?_) (fun r2=>?_)
  · have h2:=tz1 (af r1 r2);refine w_6 ?_;exact lpx (j + 1) ⟨tt,⟨⟨_,rfl,(by first | (rw [a0v b5o b5p];exact CoO.refl _) | (rw [s5 b5o b5p,mt,pf b5p];exact CoO.refl _) | (rw [s5 b5o b5p,mt];exact mq (sw b5o)))⟩,uu⟩⟩
  have h2:=tz2 (af r1 r2);refine w_8 ?_;refine ww (ka 1 (ka 2 (ka 3 (ka 4 (ka 8 (ka 9 (ka 10 kn))))))) (kb 0 (kb 1 km)) ⟨[(13,some (vI (loI ((eqMs (bd l) a b (eg s j)) a j) ((eqMs (bd l) a b (eg s j)) b j)))),(14,some (vI (hiI ((eqMs (bd l) a b (eg s j)) a j) ((eqMs (bd l) a b (eg s j)) b j))))],[(901,some (.nest 97 3 1 l.length (fun i=>(l.getD i default).length) (mg (eqMs (bd l) a b (eg s j))) none))]⟩ ?_ ?_
  ·
   refine w_6 ?_;refine hcd (fun h3=>?_) (fun h3=>?_)
   · refine w_6 ?_;exact ⟨⟨⟨_,rfl,(la (by simp only [b34];unfold loI;split <;> omega))⟩,⟨_,rfl,(la (by simp only [b34];unfold hiI;split <;> omega))⟩,tt⟩,uu⟩
   refine c4 ?_;exact ⟨⟨⟨_,rfl,(la (by simp only [b34];unfold loI;split <;> omega))⟩,⟨_,rfl,(la (by simp only [b34];unfold hiI;split <;> omega))⟩,tt⟩,uu⟩
  refine w_5 ?_;refine bw (ka 1 (ka 2 (ka 3 (ka 4 (ka 8 (ka 9 (ka 10 (ka 13 (ka 14 kn))))))))) (kb 0 (kb 1 km)) (fun i=>⟨[(15,some (vI i))],[(901,some (.nest 97 3 1 l.length (fun i=>(l.getD i default).length) (mg (it (eqMs (bd l) a b (eg s j)) (hiI ((eqMs (bd l) a b (eg s j)) a j) ((eqMs (bd l) a b (eg s j)) b j)) (loI ((eqMs (bd l) a b (eg s j)) a j) ((eqMs (bd l) a b (eg s j)) b j)) i 0)) none))]⟩) l.length ⟨tt,⟨⟨_,rfl,(by rw [a84];exact CoO.refl _)⟩,trivial⟩⟩ ?_;rintro i hi;refine w_8 ?_;refine hcd (fun h4=>?_) (fun h4=>?_)
  ·
   have hri:=hrow i b5o;refine w_8 ?_;refine bw (ka 1 (ka 2 (ka 3 (ka 4 (ka 8 (ka 9 (ka 10 (ka 13 (ka 14 (ka 15 kn)))))))))) (kb 0 (kb 1 km)) (fun k=>⟨[(16,some (vI k))],[(901,some (.nest 97 3 1 l.length (fun i=>(l.getD i default).length) (mg (it (eqMs (bd l) a b (eg s j)) (hiI ((eqMs (bd l) a b (eg s j)) a j) ((eqMs (bd l) a b (eg s j)) b j)) (loI ((eqMs (bd l) a b (eg s j)) a j) ((eqMs (bd l) a b (eg s j)) b j)) i k)) none))]⟩) n.toNat kk ?_;rintro k hk;refine w_8 ?_;refine hcd (fun h5=>?_) (fun h5=>?_)
   ·
    refine dh ?_;(iterate 2 refine rq rfl rfl rfl rfl rfl ?_ (hp:=(by (try simp only [b34,nM]);(repeat' apply And.intro) <;> first | trivial | rfl | omega | exact b2u rfl)));refine w_3 ?_;refine hcd (fun h6=>?_) (fun h6=>?_)
    · refine w_7 ?_;refine rq rfl rfl rfl rfl rfl ?_ (hp:=(by (try simp only [b34,nM]);(repeat' apply And.intro) <;> first | trivial | rfl | omega | exact b2u rfl));refine rs rfl rfl rfl rfl rfl ?_ (hp:=(by (try simp only [b34,nM]);(repeat' apply And.intro) <;> first | trivial | rfl | omega | exact b2u rfl));refine w_6 ?_;exact lpx (k + 1) ⟨tt,⟨⟨_,rfl,(by first | exact a11 (a5f b5p) b5r b5r | (rw [a4t b5p];exact CoO.refl _))⟩,uu⟩⟩
    refine w_6 ?_;exact lpx (k + 1) ⟨tt,⟨⟨_,rfl,(by first | exact a11 (a5f b5p) b5r b5r | (rw [a4t b5p];exact CoO.refl _))⟩,uu⟩⟩
   refine w_6 ?_;exact lpx (i + 1) ⟨tt,⟨⟨_,rfl,(mq (ac6 b5o))⟩,uu⟩⟩
  refine w_6 ?_;exact lpx (j + 1) ⟨tt,⟨⟨_,rfl,(by first | (rw [a0v b5o b5p];exact CoO.refl _) | (rw [s5 b5o b5p,mt,pf b5p];exact CoO.refl _) | (rw [s5 b5o b5p,mt];exact mq (sw b5o)))⟩,uu⟩⟩
 obtain rfl:j = n.toNat:=by omega
 refine w_2 ?_;have hme:=ak7 (s:=s) (n:=n.toNat) b5o hs;refine af8 901 rfl ?_;refine bf 9 rfl rfl rfl ?_;refine w_4 ?_;refine rc rfl rfl rfl rfl rfl rfl a6f (a2b n (cg l (eqMs (bd l) a b (b6 s))) (by rw [im];omega)) (⟨CoC.refl _,CoC.one (by rw [hme];exact am4 rfl),trivial⟩) rfl rfl ?_;refine v_2 ?_;exact CoL.refl _
end
section
open Go.Proofs
def b64 {p:Prop} (h:p:=by first | omega | (simp only [b34];omega)):p:=h
def b6a {p:Prop} (h:p:=by first | exact p9 b5o b5p b5o b5o | exact og (b31.1 b5p)):p:=h
def ax3 (n:Int) (l:List Rw) (x:Fd) (a b:Nat) (h0:0 <= n) (h1:n <= 16) (hrow:∀ i,i < l.length -> (l.getD i default).length = n.toNat) (hl2:l.length <= 4294967296) (ha:a < l.length) (hb:b < l.length):a8 b6e 123 [pT n l,x.pc,pI (a:Int),pI (b:Int)] (aa [pT n (ae (l ++ [(cj (l.getD a default) (l.getD b default) (x.lhs ||| x.rhs))]))]):=by
 refine hpx (nt:=51) Tryz.func123 ?_;refine sx7 ?_;refine m9 0 ?_;refine m9 1 ?_;refine m9 2 ?_;refine w_2 ?_;have hra:=hrow a ha;have hrb:=hrow b hb;refine gy ?_;refine m9 3 ?_;refine w_5 ?_;refine r9 4 true ?_;refine w_8 ?_;refine bw (ka 2 (ka 4 (ka 5 (ka 8 (ka 9 kn))))) (kb 0 (kb 1 (kb 2 km))) (fun j=>⟨[(10,some (vI j))],[(3,some (.arr true 1 3 (0 + (l.getD b default).length) (lf zC (iw (l.getD a default) (l.getD b default) (x.lhs ||| x.rhs) j))))]⟩) n.toNat ⟨tt,⟨⟨_,rfl,(acm (fun _ _=>rfl))⟩,trivial⟩⟩ ?_;rintro j hj;refine w_8 ?_;refine hcd (fun h0=>?_) (fun h0=>?_)
 ·
  refine dq ?_;refine rc rfl rfl rfl rfl rfl rfl wl (a9w (x.lhs ||| x.rhs) (j:Int)) (⟨cci (by rw [bOr]),CoC.refl _,trivial⟩) rfl rfl ?_;refine bm ?_;refine hcb (fun h1=>?_) (fun h1=>?_)
  · refine w_9 ?_;(iterate 3 refine rq rfl rfl rfl rfl rfl ?_ (hp:=(by (try simp only [b34,nM]);(repeat' apply And.intro) <;> first | trivial | rfl | omega | exact b2u rfl)));refine rs rfl rfl rfl rfl rfl ?_ (hp:=(by (try simp only [b34,nM]);(repeat' apply And.intro) <;> first | trivial | rfl | omega | exact b2u rfl));refine w_6 ?_;exact lpx (j + 1) ⟨tt,⟨⟨_,rfl,b6a⟩,uu⟩⟩
  refine w_6 ?_;exact lpx (j + 1) ⟨tt,⟨⟨_,rfl,b6a⟩,uu⟩⟩
 obtain rfl:j = n.toNat:=by omega
 refine w_2 ?_;refine bf 9 rfl rfl rfl ?_;refine w_5 ?_;refine fc9 a72 (acs l (fun i hi=>by rw [hrow i hi];omega) b5o) trivial ?_;refine qy ?_;refine m9 5 ?_;refine r9 6 true ?_;refine iq rfl rfl rfl rfl rfl rfl a6f (a8.eat (hcs:=[.one (.p (.raw (.int .i64 n))), .one (.ref 901 (l ++ [(cj (l.getD a default) (l.getD b default) (x.lhs ||| x.rhs))]).length)]) (o1:=[(901, .arr true 1 97 (l ++ [(cj (l.getD a default) (l.getD b default) (x.lhs ||| x.rhs))]).length (lf rC (l ++ [(cj (l.getD a default) (l.getD b default) (x.lhs ||| x.rhs))])))]) (a2b n (l ++ [(cj (l.getD a default) (l.getD b default) (x.lhs ||| x.rhs))]) b61) rfl (by (repeat' apply And.intro) <;> first | trivial | rfl) (CoL.refl _)) (⟨CoP.refl _,congrArg (HV.ref 901) b5r,trivial⟩) ⟨⟨_,rfl,(jn rfl (afh b64 b64))⟩,trivial⟩ rfl rfl ?_;refine v_3 ?_;exact CoL.refl _
end
section
open Go.Proofs
def ayz (n:Int) (l:List Rw) (p m:List Fd) (i a b:Nat) (h0:0 <= n) (h1:n <= 16) (hrow:∀ i,i < l.length -> (l.getD i default).length = n.toNat) (ha:a < l.length) (hb:b < l.length) (hi:i < p.length):a8 b6e 165 [pT n l,pP (fdl p),pP (fdl m), .agg [.raw (.bool false), .raw (.int .i64 (i:Int)), .raw (.int .i64 (a:Int)), .raw (.int .i64 (b:Int))]] (aa [pB (d6 l (p.getD i default) a b)]):=by
 refine hpx (nt:=85) Tryz.func165 ?_;refine sx7 ?_;refine m9 0 ?_;refine m9 1 ?_;refine w_3 ?_;have hra:=hrow a ha;have hrb:=hrow b hb;refine agm ?_;refine w_3 ?_;refine qcx w3 (vr (l.getD a default) (l.getD b default) (p.getD i default).lhs b5o b5o) ?_;refine qy ?_;refine ag rfl rfl (fun r0=>?_) (fun r0=>?_)
 ·
  have h0:=r0;(iterate 8 refine qy ?_ (hg:=(gtt r0)));refine qcx w3 (vr (l.getD a default) (l.getD b default) (p.getD i default).rhs b5o b5o) ?_ (hg:=(gtt r0));refine qy ?_ (hg:=(gtt r0));refine w_3 ?_
  exact hx8 rfl rfl rfl (⟨ccb (by first | exact (x5 b5p).symm | simp_all [d6]),trivial⟩)
 have h0:=r0;(iterate 10 refine k9 (gft r0) ?_);refine w_3 ?_
 exact hx8 rfl rfl rfl (⟨ccb (by first | exact (x5 b5p).symm | simp_all [d6]),trivial⟩)
def azp (n:Int) (l:List Rw) (p m:List Fd) (i a b:Nat) (h0:0 <= n) (h1:n <= 16) (hrow:∀ i,i < l.length -> (l.getD i default).length = n.toNat) (ha:a < l.length) (hb:b < l.length) (hi:i < m.length):a8 b6e 165 [pT n l,pP (fdl p),pP (fdl m), .agg [.raw (.bool true), .raw (.int .i64 (i:Int)), .raw (.int .i64 (a:Int)), .raw (.int .i64 (b:Int))]] (aa [pB (a15 l (m.getD i default) a b)]):=by
 refine hpx (nt:=85) Tryz.func165 ?_;refine sx7 ?_;refine m9 0 ?_;refine m9 1 ?_;refine w_3 ?_;have hra:=hrow a ha;have hrb:=hrow b hb;refine agm ?_;refine qy ?_;refine m9 2 ?_;refine w_9 ?_;refine qcx w3 (vr (l.getD a default) (l.getD b default) (m.getD i default).lhs b5o b5o) ?_;refine w_2 ?_;refine hcv (fun h0=>?_) (fun h0=>?_)
 · refine v_4 ?_;exact ⟨ccb (by unfold a15;simp_all),trivial⟩
 refine w_3 ?_;refine m9 3 ?_;refine qy ?_;refine r9 4 true ?_;refine w_8 ?_;refine bw (ka 4 (ka 9 (ka 11 (ka 12 kn)))) (kb 0 (kb 2 km)) (fun j=>⟨[(13,some (vI j))],[(3,some (.arr true 1 3 (0 + (l.getD b default).length) (lf zC (iw (l.getD a default) (l.getD b default) (m.getD i default).rhs j))))]⟩) n.toNat ⟨tt,⟨⟨_,rfl,(acm (fun _ _=>rfl))⟩,trivial⟩⟩ ?_;rintro j hj;refine w_8 ?_;refine hcd (fun h1=>?_) (fun h1=>?_)
 ·
  refine w_8 ?_;refine qcx wl (a9w (m.getD i default).rhs (j:Int)) ?_;refine bm ?_;refine hcb (fun h2=>?_) (fun h2=>?_)
  · refine w_5 ?_;(iterate 3 refine rq rfl rfl rfl rfl rfl ?_ (hp:=(by (try simp only [b34,nM]);(repeat' apply And.intro) <;> first | trivial | rfl | omega | exact b2u rfl)));refine rs rfl rfl rfl rfl rfl ?_ (hp:=(by (try simp only [b34,nM]);(repeat' apply And.intro) <;> first | trivial | rfl | omega | exact b2u rfl));refine w_6 ?_;exact lpx (j + 1) ⟨tt,⟨⟨_,rfl,b6a⟩,uu⟩⟩
  refine w_6 ?_;exact lpx (j + 1) ⟨tt,⟨⟨_,rfl,b6a⟩,uu⟩⟩
 obtain rfl:j = n.toNat:=by omega
 refine w_2 ?_;refine bf 12 rfl rfl rfl ?_;refine w_3 ?_;refine rc rfl rfl rfl rfl rfl rfl aag (acb n l (cj (l.getD a default) (l.getD b default) (m.getD i default).rhs)) (⟨CoC.refl _,afh b64 b64,trivial⟩) rfl rfl ?_;refine v_3 ?_;exact ⟨ccb (by unfold a15;simp_all),trivial⟩
end
section
open Go.Proofs
def muK (p:List Fd) (k:Nat):Bool:=decide (p.length <= k)
def ixK (p:List Fd) (k:Nat):Nat:=if p.length <= k then k - p.length else k
def chE (l:List Rw) (p m:List Fd) (s:St):Bool:=if s.1 = true then a15 l (m.getD s.2.1 default) s.2.2.1 s.2.2.2 else d6 l (p.getD s.2.1 default) s.2.2.1 s.2.2.2
def cCh (n:Int) (l:List Rw) (p m:List Fd) (k a b:Nat) (hT:tok n l = true) (ha:a < l.length) (hb:b < l.length) (hk:k < p.length + m.length) :
 a8 b6e 165 [pT n l,pP (fdl p),pP (fdl m),St.pc (muK p k,ixK p k,a,b)] (aa [pB (chE l p m (muK p k,ixK p k,a,b))]):=by
 obtain ⟨h0,h1,h2,h3⟩:=eu hT;by_cases h:p.length <= k
 · have e1:muK p k = true:=decide_eq_true h
   have e2:ixK p k = k - p.length:=if_pos h;rw [e1,e2];exact azp n l p m (k - p.length) a b h0 h1 h3 ha hb b5o
 have e1:muK p k = false:=decide_eq_false h;have e2:ixK p k = k:=if_neg h;rw [e1,e2];exact ayz n l p m k a b h0 h1 h3 ha hb b5o
def fv (l:List Rw) (p m:List Fd) (k a b:Nat):Bool:=decide (a ≠ b) && chE l p m (muK p k,ixK p k,a,b)
def u6 (l:List Rw) (p m:List Fd):Option St:=(dp (fv l p m) (p.length + m.length) l.length).map fun x=>(muK p x.1,ixK p x.1,x.2.1,x.2.2)
section
variable {l:List Rw} {p m:List Fd} {k a b:Nat}
def as7 (h:¬ a = b) (h2:chE l p m (muK p k,ixK p k,a,b) = true):fv l p m k a b = true:=by unfold fv;rw [decide_eq_true h,h2];rfl
def aaf (h:a = b):fv l p m k a b = false:=by unfold fv;rw [decide_eq_false (fun e=>e h)];rfl
def ach (h2:chE l p m (muK p k,ixK p k,a,b) = false):fv l p m k a b = false:=by unfold fv;rw [h2,Bool.and_false]
def aqw (h:dp (fv l p m) (p.length + m.length) l.length = some (k,a,b)):u6 l p m = some (muK p k,ixK p k,a,b):=by unfold u6;rw [h];rfl
def ar3 (h:dp (fv l p m) (p.length + m.length) l.length = none):u6 l p m = none:=by unfold u6;rw [h];rfl
end
end
section
open Go.Proofs
def auf (n:Int) (l:List Rw) (p m:List Fd) (hT:tok n l = true) (hp:p.length <= 64) (hm:m.length <= 64):a8 b6e 134 [pT n l,pP (fdl p),pP (fdl m)] (aa [St.pc ((u6 l p m).getD (false,0,0,0)),pB (u6 l p m).isSome]):=by
 refine hpx (nt:=66) Tryz.func134 ?_;refine c0 ?_;obtain ⟨hn0,hn16,hl256,hrow⟩:=eu hT;refine c5 1 rfl fun hn1=>?_;refine c5 2 rfl fun hn2=>?_;refine gy ?_;refine m9 0 ?_;refine m9 1 ?_;refine w_8 ?_;refine ak (ι:=Nat) (ka 1 (ka 2 (ka 3 (ka 6 kn)))) (kb 0 (kb 1 km)) (fun k=>⟨[(8,some (vI k))],[]⟩) (fun k=>k <= p.length + m.length /\ ∀ i',i' < k -> ∀ a',a' < l.length -> ∀ b',b' < l.length -> fv l p m i' a' b' = false) (fun k=>p.length + m.length - k) (0) (⟨b2z _,b9⟩) kk ?_;rintro k ⟨hk,hK⟩;refine dq ?_;refine hcd (fun h0=>?_) (fun h0=>?_)
 ·
  refine w_7 ?_;refine m9 2 ?_;refine w_2 ?_;refine ww (ka 1 (ka 2 (ka 3 (ka 6 (ka 8 (ka 9 kn)))))) (kb 0 (kb 1 km)) ⟨[],[(2,some (.box [.p (.raw (.bool (muK p k))), .p (.raw (.int .i64 (ixK p k:Int))), .p (.raw (.int .i64 0)), .p (.raw (.int .i64 0))]))]⟩ ?_ ?_
  ·
   refine w_7 ?_;refine hcd (fun h1=>?_) (fun h1=>?_)
   · refine w_8 ?_;exact ⟨tt,⟨⟨_,rfl,(by unfold muK ixK;first | (rw [decide_eq_true b5o,if_pos b5o];refine ⟨CoP.refl _,CoP.of_eq (by congr 2;omega),CoP.refl _,CoP.refl _,trivial⟩) | (rw [decide_eq_false b5o,if_neg b5o];exact ⟨CoP.refl _,CoP.refl _,CoP.refl _,CoP.refl _,trivial⟩))⟩,uu⟩⟩
   refine c4 ?_;exact ⟨tt,⟨⟨_,rfl,(by unfold muK ixK;first | (rw [decide_eq_true b5o,if_pos b5o];refine ⟨CoP.refl _,CoP.of_eq (by congr 2;omega),CoP.refl _,CoP.refl _,trivial⟩) | (rw [decide_eq_false b5o,if_neg b5o];exact ⟨CoP.refl _,CoP.refl _,CoP.refl _,CoP.refl _,trivial⟩))⟩,uu⟩⟩
  refine w_6 ?_;refine ak (ι:=Nat × Nat) (ka 1 (ka 2 (ka 3 (ka 6 (ka 8 (ka 9 kn)))))) (kb 0 (kb 1 km)) (fun y=>⟨[],[(2,some (.box [.p (.raw (.bool (muK p k))), .p (.raw (.int .i64 (ixK p k:Int))), .p (.raw (.int .i64 (y.1:Int))), .p (.raw (.int .i64 (y.2:Int)))]))]⟩) (fun y=>y.1 <= l.length /\ ∀ a',a' < y.1 -> ∀ b',b' < l.length -> fv l p m k a' b' = false) (fun y=>l.length - y.1) ((0,0)) (⟨b2z _,b9⟩) kk ?_;rintro y ⟨hy,hA⟩;refine dh ?_;refine hcd (fun h2=>?_) (fun h2=>?_)
  ·
   refine w_9 ?_;refine ak (ι:=Nat) (ka 1 (ka 2 (ka 3 (ka 6 (ka 8 (ka 9 kn)))))) (kb 0 (kb 1 km)) (fun b=>⟨[],[(2,some (.box [.p (.raw (.bool (muK p k))), .p (.raw (.int .i64 (ixK p k:Int))), .p (.raw (.int .i64 (y.1:Int))), .p (.raw (.int .i64 (b:Int)))]))]⟩) (fun b=>b <= l.length /\ ∀ b',b' < b -> fv l p m k y.1 b' = false) (fun b=>l.length - b) (0) (⟨b2z _,b9⟩) kk ?_;rintro b ⟨hb,hB⟩;refine dh ?_;refine hcd (fun h3=>?_) (fun h3=>?_)
   ·
    refine dq ?_;refine ag rfl rfl (fun r4=>?_) (fun r4=>?_)
    ·
     have h4:=tz2 (cz r4);(iterate 4 refine qy ?_ (hg:=(gtt r4)));refine qcx (wgx Tryz.func165) (cCh n l p m k y.1 b hT b5o b5o b5o) ?_ (hg:=(gtt r4));refine w_2 ?_;refine ai _ rfl (fun r5=>?_) (fun r5=>?_)
     · have h5:=ci r4 r5;refine w_6 ?_;refine hrr ?_;have he:=aqw (vm (P:=fv l p m) (i:=k) (a:=y.1) (b:=b) b5o b5o b5o (as7 b5o b5p) hK hA hB);exact f9 rfl rfl (by rw [he];exact CoL.refl _)
     have h5:=ci r4 r5;refine w_8 ?_;refine lpz (b + 1) kk ?_;exact ⟨by show b + 1 <= _;omega,ay hB (by first | exact aaf b5o | exact ach b5p)⟩
    have h4:=tz1 (cu r4);(iterate 5 refine k9 (gft r4) ?_);refine dq ?_;refine lpz (b + 1) kk ?_
    exact ⟨by show b + 1 <= _;omega,ay hB (by first | exact aaf b5o | exact ach b5p)⟩
   refine w_8 ?_;refine lpz (y.1 + 1,b) kk ?_;exact ⟨by show y.1 + 1 <= _;omega,ay hA (fun b' hb'=>hB b' b5o)⟩
  refine w_6 ?_;refine lpz (k + 1) kk ?_;exact ⟨by show k + 1 <= _;omega,ay hK (fun a' ha'=>hA a' b5o)⟩
 refine w_7 ?_;refine hrr ?_;have he:=ar3 (v6 (P:=fv l p m) (I:=p.length + m.length) (L:=l.length) fun j hj=>hK j b5o);exact f9 rfl rfl (by rw [he];exact CoL.refl _)
end
section
def tu {α:Type} {f g:Nat -> Option α}:∀ {ks:List Nat},(∀ k,k ∈ ks -> f k = g k) -> ks.findSome? f = ks.findSome? g
 | [],_=>rfl
 | k :: ks,h=>by
  have h1:=h k b5r;have h2:=tu (ks:=ks) fun j hj=>h j (by simp [hj]);simp only [List.findSome?_cons,h1,h2]
def a3h {p q:Nat -> Bool}:∀ {ks:List Nat},(∀ k,k ∈ ks -> p k = q k) -> ks.find? p = ks.find? q
 | [],_=>rfl
 | k :: ks,h=>by
  have h1:=h k b5r;have h2:=a3h (ks:=ks) fun j hj=>h j (by simp [hj]);simp only [List.find?_cons,h1,h2]
def a5s {s t:AS} {i:Nat}:bc (s ||| t) (i:Int) = (bc s (i:Int) || bc t (i:Int)):=by
 by_cases h:i < 32
 · rw [ef h,ef h,ef h,b52]
 rw [te b5o,te b5o,te b5o];rfl
def aq3 {a b:Rw} {s t:AS} (hl:a.length = b.length) (h:gq a b s = true):cj a b t = cj a b (s ||| t):=by
 have h:=of_decide_eq_true h;unfold cj;refine b4g fun i hi=>?_;have hi:=b3i.1 hi;rw [a5s];by_cases h1:bc s (i:Int) = true
 · have:=h i b5o h1
   rw [h1,Bool.true_or,if_pos rfl];split
   · rfl
   exact this.symm
 rw [b31.2 h1,Bool.false_or]
def ao1 (a:Rw) (s:AS):cj a a s = a:=by
 refine jw (j2 a a s) fun j hj=>?_;rw [j2] at hj;unfold cj;rw [b2t,b39,b3v hj];show (if bc s (j:Int) = true then a.getD j default else a.getD j default) = _;split <;> rfl
section
variable {a:Nat} {l:List Rw}
def xk {x:Fd}:d6 l x a a = false:=a36 (vw fun _ _ _=>rfl)
def xn {x:Fd} (ha:a < l.length):db l x a a = false:=by
 refine a2g ?_;rw [ao1,b3z];exact ⟨_,wt ha,decide_eq_true rfl⟩
def amo {n:Int} {x:Fd} {b:Nat} (hT:tok n l = true) (ha:a < l.length) (hb:b < l.length):a15 l x a b = db l x a b:=by
 obtain ⟨_,_,_,h3⟩:=eu hT;unfold a15 db;by_cases h:gq (l.getD a default) (l.getD b default) x.lhs = true
 · rw [aq3 (by rw [h3 a ha,h3 b hb]) h]
 rw [b31.2 h];rfl
def as9 {p m:List Fd} {k b:Nat} (hk:k < p.length):fv l p m k a b = d6 l (p.getD k default) a b:=by
 have e1:muK p k = false:=decide_eq_false b5o;have e2:ixK p k = k:=if_neg b5o;unfold fv;rw [e1,e2];by_cases h:a = b
 · subst h;rw [xk,decide_eq_false (fun e=>e rfl)];rfl
 rw [decide_eq_true h];rfl
def aqc {n:Int} {p m:List Fd} {k b:Nat} (hT:tok n l = true) (ha:a < l.length) (hb:b < l.length):fv l p m (p.length + k) a b = db l (m.getD k default) a b:=by
 have e1:muK p (p.length + k) = true:=decide_eq_true b5o;have e2:ixK p (p.length + k) = k:=(if_pos b5o).trans b5o;unfold fv;rw [e1,e2];by_cases h:a = b
 · subst h;rw [xn ha,decide_eq_false (fun e=>e rfl)];rfl
 rw [decide_eq_true h,<- amo hT ha hb];rfl
def a3m {n:Int} {p m:List Fd} (hT:tok n l = true):u6 l p m = cw l p m:=by
 have e1:(List.range p.length).findSome? (fun i=>(List.range l.length).findSome? fun a=>((List.range l.length).find? fun b=>fv l p m i a b).map fun b=>(i,a,b)) = dp (fun i a b=>d6 l (p.getD i default) a b) p.length l.length :=
  tu fun i hi=>tu fun a _=>by rw [a3h fun b _=>as9 (b3i.1 hi)]
 have e2:(List.range m.length).findSome? (fun i=>(List.range l.length).findSome? fun a=>((List.range l.length).find? fun b=>fv l p m (p.length + i) a b).map fun b=>(p.length + i,a,b)) = (dp (fun i a b=>db l (m.getD i default) a b) m.length l.length).map fun x=>(p.length + x.1,x.2):=by
  unfold dp;rw [List.map_findSome?];refine tu fun i _=>?_;show _ = Option.map _ ((List.range l.length).findSome? _);rw [List.map_findSome?];refine tu fun a ha=>?_;rw [a3h fun b hb=>aqc hT (b3i.1 ha) (b3i.1 hb)];show _ = Option.map _ (Option.map _ _);rw [Option.map_map];rfl
 have e:dp (fv l p m) (p.length + m.length) l.length = (dp (fun i a b=>d6 l (p.getD i default) a b) p.length l.length).or ((dp (fun i a b=>db l (m.getD i default) a b) m.length l.length).map fun x=>(p.length + x.1,x.2)):=by
  rw [<- e1,<- e2];unfold dp;rw [List.range_add,List.findSome?_append,List.findSome?_map];rfl
 unfold u6 cw;rw [e]
 cases h:dp (fun i a b=>d6 l (p.getD i default) a b) p.length l.length with
 | some x =>
  obtain ⟨i,a,b⟩:=x;have hi:=(xy h).1;show some (muK p i,ixK p i,a,b) = some (false,i,a,b);rw [show muK p i = false from decide_eq_false b5o,show ixK p i = i from if_neg b5o]
 | none =>
  rw [Option.none_or]
  cases dp (fun i a b=>db l (m.getD i default) a b) m.length l.length with
  | none=>rfl
  | some x =>
   obtain ⟨i,a,b⟩:=x;show some (muK p (p.length + i),ixK p (p.length + i),a,b) = some (true,i,a,b);rw [show muK p (p.length + i) = true from decide_eq_true b5o,show ixK p (p.length + i) = i from (if_pos b5o).trans b5o]
end
end
section
def ep (l:List Rw) (p m:List Fd) (mu:Bool) (i a b:Int):Prop:=a < 0 \/ (l.length:Int) <= a \/ b < 0 \/ (l.length:Int) <= b \/ a = b \/ i < 0 \/ (mu = true /\ (m.length:Int) <= i) \/ (mu = false /\ (p.length:Int) <= i)
instance (l:List Rw) (p m:List Fd) (mu:Bool) (i a b:Int):Decidable (ep l p m mu i a b):=by unfold ep;infer_instance
def bdS {l:List Rw} {p m:List Fd} {mu:Bool} {i a b:Int} (h:ep l p m mu i a b:=by unfold ep;first | exact .inl b5o | exact .inr (.inl b5o) | exact .inr (.inr (.inl b5o)) | exact .inr (.inr (.inr (.inl b5o))) | exact .inr (.inr (.inr (.inr (.inl b5o)))) | exact .inr (.inr (.inr (.inr (.inr (.inl b5o))))) | exact .inr (.inr (.inr (.inr (.inr (.inr (.inl ⟨by first | rfl | assumption | simp_all,by omega⟩)))))) | exact .inr (.inr (.inr (.inr (.inr (.inr (.inr ⟨by first | rfl | assumption | simp_all,by omega⟩))))))):ep l p m mu i a b:=h
def cn (n:Int) (l:List Rw) (p m:List Fd) (mu:Bool) (i a b:Int):Int × List Rw × Int :=
 if ckE n l p m = 0 then if ep l p m mu i a b then (0,[],1) else bu n l p m (mu,i.toNat,a.toNat,b.toNat) else (0,[],ckE n l p m)
section
variable {n:Int} {l:List Rw} {p m:List Fd} {mu:Bool} {i a b:Int}
def ab6 (h:tok n l = false):cn n l p m mu i a b = (0,[],1):=by
 have e:ckE n l p m = 1:=if_neg (by rw [h];decide);unfold cn;rw [e];rfl
def abm (h:tok n l = true) (h2:¬ bi n p m = 0):cn n l p m mu i a b = (0,[],bi n p m):=by
 have e:ckE n l p m = bi n p m:=if_pos h;unfold cn;rw [e,if_neg h2]
def ey (h:tok n l = true) (h2:bi n p m = 0) (h3:ep l p m mu i a b):cn n l p m mu i a b = (0,[],1):=by
 have e:ckE n l p m = bi n p m:=if_pos h;unfold cn;rw [e,if_pos h2,if_pos h3]
def xr (h:tok n l = true) (h2:bi n p m = 0) (h3:¬ ep l p m mu i a b):cn n l p m mu i a b = bu n l p m (mu,i.toNat,a.toNat,b.toNat):=by
 have e:ckE n l p m = bi n p m:=if_pos h;unfold cn;rw [e,if_pos h2,if_neg h3]
end
end
section
open Go.Proofs
def amq (n:Int) (l:List Rw) (p m:List Fd) (i a b:Int):a8 b6e 85 [pT n l,pP (fdl p),pP (fdl m), .agg [.raw (.bool true), .raw (.int .i64 i), .raw (.int .i64 a), .raw (.int .i64 b)]] (aa [pT (cn n l p m true i a b).1 (cn n l p m true i a b).2.1,pI (cn n l p m true i a b).2.2]):=by
 refine hpx (nt:=158) Tryz.func85 ?_;refine sx7 ?_;refine m9 0 ?_;refine m9 1 ?_;refine m9 2 ?_;refine w_6 ?_;refine qcx a6n (a3d n l) ?_;refine w_2 ?_;refine hcv (fun h0=>?_) (fun h0=>?_)
 · refine w_6 ?_;refine hrr ?_;have he:=ab6 (n:=n) (l:=l) (p:=p) (m:=m) (mu:=true) (i:=i) (a:=a) (b:=b) b5w;exact f9 rfl rfl (by rw [he];exact ⟨CoC.agg ⟨CoP.refl _,au,trivial⟩,CoC.refl _,trivial⟩)
 have hT:tok n l = true:=by simp_all
 obtain ⟨hn0,hn16,hl256,hrow⟩:=eu hT;refine w_8 ?_;refine qcx z1 (sn n p m) ?_;refine w_7 ?_;refine hcn (fun h1=>?_) (fun h1=>?_)
 · refine w_7 ?_;refine hrr ?_;have he:=abm (mu:=true) (i:=i) (a:=a) (b:=b) hT b5p;exact f9 rfl rfl (by rw [he];exact ⟨CoC.agg ⟨CoP.refl _,au,trivial⟩,CoC.refl _,trivial⟩)
 have hbe:bi n p m = 0:=by assumption
 obtain ⟨_,_,hpl,hpa,hml,_⟩:=sd hbe;refine kw ?_;refine ag rfl rfl (fun r2=>?_) (fun r2=>?_)
 ·
  have h2:=tz1 r2;(iterate 4 refine k9 (gtf r2) ?_);refine w_2 ?_;(iterate 3 refine k9 rfl ?_);refine w_2 ?_;(iterate 4 refine k9 rfl ?_);refine w_2 ?_;(iterate 5 refine k9 rfl ?_);refine w_2 ?_;(iterate 3 refine k9 rfl ?_);refine w_2 ?_
  (iterate 9 refine k9 rfl ?_);refine w_2 ?_;(iterate 10 refine k9 rfl ?_);refine w_9 ?_;refine hrr ?_
  have he:=ey (mu:=true) (i:=i) (a:=a) (b:=b) hT hbe bdS;exact f9 rfl rfl (by rw [he];exact ⟨CoC.agg ⟨CoP.refl _,au,trivial⟩,CoC.refl _,trivial⟩)
 have h2:=tz2 r2;(iterate 4 refine qy ?_ (hg:=(gff r2)));refine w_2 ?_;refine ag rfl rfl (fun r3=>?_) (fun r3=>?_)
 ·
  have h3:=tz1 (af r2 r3);(iterate 3 refine k9 (gtf r3) ?_);refine w_2 ?_;(iterate 4 refine k9 rfl ?_);refine w_2 ?_;(iterate 5 refine k9 rfl ?_);refine w_2 ?_;(iterate 3 refine k9 rfl ?_);refine w_2 ?_;(iterate 9 refine k9 rfl ?_);refine w_2 ?_
  (iterate 10 refine k9 rfl ?_);refine w_9 ?_;refine hrr ?_
  have he:=ey (mu:=true) (i:=i) (a:=a) (b:=b) hT hbe bdS;exact f9 rfl rfl (by rw [he];exact ⟨CoC.agg ⟨CoP.refl _,au,trivial⟩,CoC.refl _,trivial⟩)
 have h3:=tz2 (af r2 r3);(iterate 3 refine qy ?_ (hg:=(gff r3)));refine w_2 ?_;refine ag rfl rfl (fun r4=>?_) (fun r4=>?_)
 ·
  have h4:=tz1 (af r3 r4);(iterate 4 refine k9 (gtf r4) ?_);refine w_2 ?_;(iterate 5 refine k9 rfl ?_);refine w_2 ?_;(iterate 3 refine k9 rfl ?_);refine w_2 ?_;(iterate 9 refine k9 rfl ?_);refine w_2 ?_;(iterate 10 refine k9 rfl ?_)
  refine w_9 ?_;refine hrr ?_;have he:=ey (mu:=true) (i:=i) (a:=a) (b:=b) hT hbe bdS;exact f9 rfl rfl (by rw [he];exact ⟨CoC.agg ⟨CoP.refl _,au,trivial⟩,CoC.refl _,trivial⟩)
 have h4:=tz2 (af r3 r4);(iterate 4 refine qy ?_ (hg:=(gff r4)));refine w_2 ?_;refine ag rfl rfl (fun r5=>?_) (fun r5=>?_)
 ·
  have h5:=tz1 (af r4 r5);(iterate 5 refine k9 (gtf r5) ?_);refine w_2 ?_;(iterate 3 refine k9 rfl ?_);refine w_2 ?_;(iterate 9 refine k9 rfl ?_);refine w_2 ?_;(iterate 10 refine k9 rfl ?_);refine w_9 ?_;refine hrr ?_
  have he:=ey (mu:=true) (i:=i) (a:=a) (b:=b) hT hbe bdS;exact f9 rfl rfl (by rw [he];exact ⟨CoC.agg ⟨CoP.refl _,au,trivial⟩,CoC.refl _,trivial⟩)
 have h5:=tz2 (af r4 r5);(iterate 5 refine qy ?_ (hg:=(gff r5)));refine w_2 ?_;refine ag rfl rfl (fun r6=>?_) (fun r6=>?_)
 ·
  have h6:=tz1 (af r5 r6);(iterate 3 refine k9 (gtf r6) ?_);refine w_2 ?_;(iterate 9 refine k9 rfl ?_);refine w_2 ?_;(iterate 10 refine k9 rfl ?_);refine w_9 ?_;refine hrr ?_
  have he:=ey (mu:=true) (i:=i) (a:=a) (b:=b) hT hbe bdS;exact f9 rfl rfl (by rw [he];exact ⟨CoC.agg ⟨CoP.refl _,au,trivial⟩,CoC.refl _,trivial⟩)
 have h6:=tz2 (af r5 r6);(iterate 3 refine qy ?_ (hg:=(gff r6)));refine w_2 ?_;refine ag rfl rfl (fun r7=>?_) (fun r7=>?_)
 ·
  have h7:=tz1 (af r6 r7);(iterate 3 refine k9 (gtf r7) ?_);(iterate 5 refine k9 rfl ?_);refine k9 (gtf r7) ?_;refine w_2 ?_;(iterate 10 refine k9 rfl ?_);refine w_9 ?_;refine hrr ?_
  have he:=ey (mu:=true) (i:=i) (a:=a) (b:=b) hT hbe bdS;exact f9 rfl rfl (by rw [he];exact ⟨CoC.agg ⟨CoP.refl _,au,trivial⟩,CoC.refl _,trivial⟩)
 have h7:=tz2 (af r6 r7);(iterate 3 refine qy ?_ (hg:=(gff r7)));refine w_5 ?_;refine qy ?_ (hg:=(gff r7));refine w_2 ?_;refine ag rfl rfl (fun r8=>?_) (fun r8=>?_)
 ·
  have h8:=tz1 (af r7 r8);(iterate 4 refine k9 (gtf r8) ?_);(iterate 5 refine k9 rfl ?_);refine k9 (gtf r8) ?_;refine w_9 ?_;refine hrr ?_
  have he:=ey (mu:=true) (i:=i) (a:=a) (b:=b) hT hbe bdS;exact f9 rfl rfl (by rw [he];exact ⟨CoC.agg ⟨CoP.refl _,au,trivial⟩,CoC.refl _,trivial⟩)
 have h8:=tz2 (af r7 r8);(iterate 4 refine qy ?_ (hg:=(gff r8)));(iterate 5 refine k9 rfl ?_);refine qy ?_ (hg:=(gff r8));refine w_2 ?_;refine ai _ rfl (fun e=>Bool.noConfusion ((qc r8 rfl).symm.trans e)) (fun _=>?_);refine w_2 ?_
 have hnb:¬ ep l p m true i a b:=by
  unfold ep;rintro (h | h | h | h | h | h | ⟨h,h2⟩ | ⟨h,h2⟩) <;> first | omega | cases h
 have hap:=xr (mu:=true) (i:=i) (a:=a) (b:=b) hT hbe hnb;have ha:a.toNat < l.length:=by omega
 have hb:b.toNat < l.length:=by omega
 have hra:=hrow _ ha;have hrb:=hrow _ hb;have hi:i.toNat < m.length:=by omega
 refine gy ?_;refine m9 3 ?_;refine alx ?_;refine qcx w3 (vr (l.getD a.toNat default) (l.getD b.toNat default) (m.getD i.toNat default).lhs b5o b5o) ?_;refine w_3 ?_;refine hcv (fun h9=>?_) (fun h9=>?_)
 · refine w_6 ?_;refine hrr ?_;have he:=hap.trans (show mvE n l a.toNat b.toNat (m.getD i.toNat default) = (0,[],1) from if_neg (b31.1 b5p));exact f9 rfl rfl (by rw [he];exact ⟨CoC.agg ⟨CoP.refl _,au,trivial⟩,CoC.refl _,trivial⟩)
 refine jh ?_;refine rc rfl rfl rfl rfl rfl rfl (wgx Tryz.func123) (ax3 n l (m.getD i.toNat default) a.toNat b.toNat hn0 hn16 hrow b5o ha hb) (⟨CoC.refl _,CoC.refl _,cci b5o,cci b5o,trivial⟩) rfl rfl ?_;refine dq ?_;refine hcd (fun h10=>?_) (fun h10=>?_)
 · refine w_6 ?_;refine hrr ?_;have he:=hap.trans (show mvE n l a.toNat b.toNat (m.getD i.toNat default) = (0,[],3) from (if_pos b5p).trans (if_pos b5o));exact f9 rfl rfl (by rw [he];exact ⟨CoC.agg ⟨CoP.refl _,au,trivial⟩,CoC.refl _,trivial⟩)
 refine w_7 ?_;refine hrr ?_;have he:=hap.trans (show mvE n l a.toNat b.toNat (m.getD i.toNat default) = (n,ae (l ++ [cj (l.getD a.toNat default) (l.getD b.toNat default) ((m.getD i.toNat default).lhs ||| (m.getD i.toNat default).rhs)]),0) from (if_pos b5p).trans (if_neg b5o));exact f9 rfl rfl (by rw [he];exact CoL.refl _)
def anh (n:Int) (l:List Rw) (p m:List Fd) (i a b:Int):a8 b6e 85 [pT n l,pP (fdl p),pP (fdl m), .agg [.raw (.bool false), .raw (.int .i64 i), .raw (.int .i64 a), .raw (.int .i64 b)]] (aa [pT (cn n l p m false i a b).1 (cn n l p m false i a b).2.1,pI (cn n l p m false i a b).2.2]):=by
 refine hpx (nt:=158) Tryz.func85 ?_;refine sx7 ?_;refine m9 0 ?_;refine m9 1 ?_;refine m9 2 ?_;refine w_6 ?_;refine qcx a6n (a3d n l) ?_;refine w_2 ?_;refine hcv (fun h0=>?_) (fun h0=>?_)
 · refine w_6 ?_;refine hrr ?_;have he:=ab6 (n:=n) (l:=l) (p:=p) (m:=m) (mu:=false) (i:=i) (a:=a) (b:=b) b5w;exact f9 rfl rfl (by rw [he];exact ⟨CoC.agg ⟨CoP.refl _,au,trivial⟩,CoC.refl _,trivial⟩)
 have hT:tok n l = true:=by simp_all
 obtain ⟨hn0,hn16,hl256,hrow⟩:=eu hT;refine w_8 ?_;refine qcx z1 (sn n p m) ?_;refine w_7 ?_;refine hcn (fun h1=>?_) (fun h1=>?_)
 · refine w_7 ?_;refine hrr ?_;have he:=abm (mu:=false) (i:=i) (a:=a) (b:=b) hT b5p;exact f9 rfl rfl (by rw [he];exact ⟨CoC.agg ⟨CoP.refl _,au,trivial⟩,CoC.refl _,trivial⟩)
 have hbe:bi n p m = 0:=by assumption
 obtain ⟨_,_,hpl,hpa,hml,_⟩:=sd hbe;refine kw ?_;refine ag rfl rfl (fun r2=>?_) (fun r2=>?_)
 ·
  have h2:=tz1 r2;(iterate 4 refine k9 (gtf r2) ?_);refine w_2 ?_;(iterate 3 refine k9 rfl ?_);refine w_2 ?_;(iterate 4 refine k9 rfl ?_);refine w_2 ?_;(iterate 5 refine k9 rfl ?_);refine w_2 ?_;(iterate 3 refine k9 rfl ?_);refine w_2 ?_
  (iterate 9 refine k9 rfl ?_);refine w_2 ?_;(iterate 10 refine k9 rfl ?_);refine w_9 ?_;refine hrr ?_
  have he:=ey (mu:=false) (i:=i) (a:=a) (b:=b) hT hbe bdS;exact f9 rfl rfl (by rw [he];exact ⟨CoC.agg ⟨CoP.refl _,au,trivial⟩,CoC.refl _,trivial⟩)
 have h2:=tz2 r2;(iterate 4 refine qy ?_ (hg:=(gff r2)));refine w_2 ?_;refine ag rfl rfl (fun r3=>?_) (fun r3=>?_)
 ·
  have h3:=tz1 (af r2 r3);(iterate 3 refine k9 (gtf r3) ?_);refine w_2 ?_;(iterate 4 refine k9 rfl ?_);refine w_2 ?_;(iterate 5 refine k9 rfl ?_);refine w_2 ?_;(iterate 3 refine k9 rfl ?_);refine w_2 ?_;(iterate 9 refine k9 rfl ?_);refine w_2 ?_
  (iterate 10 refine k9 rfl ?_);refine w_9 ?_;refine hrr ?_
  have he:=ey (mu:=false) (i:=i) (a:=a) (b:=b) hT hbe bdS;exact f9 rfl rfl (by rw [he];exact ⟨CoC.agg ⟨CoP.refl _,au,trivial⟩,CoC.refl _,trivial⟩)
 have h3:=tz2 (af r2 r3);(iterate 3 refine qy ?_ (hg:=(gff r3)));refine w_2 ?_;refine ag rfl rfl (fun r4=>?_) (fun r4=>?_)
 ·
  have h4:=tz1 (af r3 r4);(iterate 4 refine k9 (gtf r4) ?_);refine w_2 ?_;(iterate 5 refine k9 rfl ?_);refine w_2 ?_;(iterate 3 refine k9 rfl ?_);refine w_2 ?_;(iterate 9 refine k9 rfl ?_);refine w_2 ?_;(iterate 10 refine k9 rfl ?_)
  refine w_9 ?_;refine hrr ?_;have he:=ey (mu:=false) (i:=i) (a:=a) (b:=b) hT hbe bdS;exact f9 rfl rfl (by rw [he];exact ⟨CoC.agg ⟨CoP.refl _,au,trivial⟩,CoC.refl _,trivial⟩)
 have h4:=tz2 (af r3 r4);(iterate 4 refine qy ?_ (hg:=(gff r4)));refine w_2 ?_;refine ag rfl rfl (fun r5=>?_) (fun r5=>?_)
 ·
  have h5:=tz1 (af r4 r5);(iterate 5 refine k9 (gtf r5) ?_);refine w_2 ?_;(iterate 3 refine k9 rfl ?_);refine w_2 ?_;(iterate 9 refine k9 rfl ?_);refine w_2 ?_;(iterate 10 refine k9 rfl ?_);refine w_9 ?_;refine hrr ?_
  have he:=ey (mu:=false) (i:=i) (a:=a) (b:=b) hT hbe bdS;exact f9 rfl rfl (by rw [he];exact ⟨CoC.agg ⟨CoP.refl _,au,trivial⟩,CoC.refl _,trivial⟩)
 have h5:=tz2 (af r4 r5);(iterate 5 refine qy ?_ (hg:=(gff r5)));refine w_2 ?_;refine ag rfl rfl (fun r6=>?_) (fun r6=>?_)
 ·
  have h6:=tz1 (af r5 r6);(iterate 3 refine k9 (gtf r6) ?_);refine w_2 ?_;(iterate 9 refine k9 rfl ?_);refine w_2 ?_;(iterate 10 refine k9 rfl ?_);refine w_9 ?_;refine hrr ?_
  have he:=ey (mu:=false) (i:=i) (a:=a) (b:=b) hT hbe bdS;exact f9 rfl rfl (by rw [he];exact ⟨CoC.agg ⟨CoP.refl _,au,trivial⟩,CoC.refl _,trivial⟩)
 have h6:=tz2 (af r5 r6);(iterate 3 refine qy ?_ (hg:=(gff r6)));refine w_2 ?_;refine ag rfl rfl (fun r7=>?_) (fun r7=>?_)
 ·
  have h7:=tz1 (af r6 r7);(iterate 3 refine k9 (gtf r7) ?_);(iterate 5 refine k9 rfl ?_);refine k9 (gtf r7) ?_;refine w_2 ?_;(iterate 10 refine k9 rfl ?_);refine w_9 ?_;refine hrr ?_
  have he:=ey (mu:=false) (i:=i) (a:=a) (b:=b) hT hbe bdS;exact f9 rfl rfl (by rw [he];exact ⟨CoC.agg ⟨CoP.refl _,au,trivial⟩,CoC.refl _,trivial⟩)
 have h7:=tz2 (af r6 r7);(iterate 3 refine qy ?_ (hg:=(gff r7)));(iterate 5 refine k9 rfl ?_);refine qy ?_ (hg:=(gff r7));refine w_2 ?_;(iterate 4 refine rq rfl rfl rfl rfl (gff (qc r7 rfl)) ?_);refine w_5 ?_
 refine rq rfl rfl rfl rfl (gff (qc r7 rfl)) ?_;refine w_2 ?_;refine ai _ rfl (fun r8=>?_) (fun r8=>?_)
 · have h8:=tz1 (af (qc r7 rfl) r8);refine w_6 ?_;refine hrr ?_;have he:=ey (mu:=false) (i:=i) (a:=a) (b:=b) hT hbe bdS;exact f9 rfl rfl (by rw [he];exact ⟨CoC.agg ⟨CoP.refl _,au,trivial⟩,CoC.refl _,trivial⟩)
 have h8:=tz2 (af (qc r7 rfl) r8);refine w_2 ?_
 have hnb:¬ ep l p m false i a b:=by
  unfold ep;rintro (h | h | h | h | h | h | ⟨h,h2⟩ | ⟨h,h2⟩) <;> first | omega | cases h
 have hap:=xr (mu:=false) (i:=i) (a:=a) (b:=b) hT hbe hnb;have ha:a.toNat < l.length:=by omega
 have hb:b.toNat < l.length:=by omega
 have hra:=hrow _ ha;have hrb:=hrow _ hb;have hi:i.toNat < p.length:=by omega
 have hu:inU n (p.getD i.toNat default) = true:=b3x.1 hpa _ (by rw [b2t,b2s hi];exact b38 hi);refine gy ?_;refine m9 3 ?_;refine alx ?_;refine qcx w3 (vr (l.getD a.toNat default) (l.getD b.toNat default) (p.getD i.toNat default).lhs b5o b5o) ?_;refine w_3 ?_;refine hcv (fun h9=>?_) (fun h9=>?_)
 · refine w_6 ?_;refine hrr ?_;have he:=hap.trans (show fdE n l a.toNat b.toNat (p.getD i.toNat default) = (0,[],1) from if_neg (b31.1 b5p));exact f9 rfl rfl (by rw [he];exact ⟨CoC.agg ⟨CoP.refl _,au,trivial⟩,CoC.refl _,trivial⟩)
 refine kj ?_;refine rc rfl rfl rfl rfl rfl rfl (wgx Tryz.func124) (amj n l (p.getD i.toNat default).rhs a.toNat b.toNat hn0 hn16 hrow b5o ha hb (fun j hj=>a0c hn0 hn16 hu hj)) (⟨CoC.refl _,CoC.refl _,cci b5o,cci b5o,trivial⟩) rfl rfl ?_;refine dq ?_;refine hcd (fun h10=>?_) (fun h10=>?_)
 · refine w_6 ?_;refine hrr ?_;have hx:=b3r (ud (cg l (eqMs (bd l) a.toNat b.toNat (b6 (p.getD i.toNat default).rhs)))) (b59 (im _ _));exact f9 rfl rfl (by exfalso;omega)
 refine w_7 ?_;refine hrr ?_;have he:=hap.trans (show fdE n l a.toNat b.toNat (p.getD i.toNat default) = (n,ae (cg l (eqMs (bd l) a.toNat b.toNat (b6 (p.getD i.toNat default).rhs))),0) from if_pos b5p);exact f9 rfl rfl (by rw [he];exact CoL.refl _)
end
section
open Go.Proofs
def aj7 (l:List Rw) (hl:∀ i,i < l.length -> (l.getD i default).length <= 17592186044416) (hl2:l.length <= 5864062014805):a8 b6e 133 [pR l] (aa [pR l]) :=
 c8.pure (args:=[pR l]) (l:=[.one (.ref 901 l.length)]) (acs l hl hl2) rfl ⟨rfl,trivial⟩
def a83 (n:Int) (l:List Rw) (p m:List Fd) (s:St) (hck:ckE n l p m = 0) (h:qo l p m s) :
 a8 b6e 85 [pT n l,pP (fdl p),pP (fdl m),s.pc] (aa [pT (bu n l p m s).1 (bu n l p m s).2.1,pI (bu n l p m s).2.2]):=by
 obtain ⟨mu,i,a,b⟩:=s;obtain ⟨ha,hb,h⟩:=h;obtain ⟨hT,hbe,_⟩:=a48 hck;have ha:a < l.length:=ha;have hb:b < l.length:=hb
 have hne:¬ a = b:=by
  rintro rfl
  rcases h with ⟨_,_,h⟩ | ⟨_,_,h⟩
  · rw [show d6 l (p.getD i default) a a = false from xk] at h;cases h
  rw [show db l (m.getD i default) a a = false from xn ha] at h;cases h
 rcases h with ⟨h1,h2,_⟩ | ⟨h1,h2,_⟩
 · cases h1
   have h2:i < p.length:=h2
   have e:=xr (mu:=false) (i:=(i:Int)) (a:=(a:Int)) (b:=(b:Int)) hT hbe (by
    unfold ep
    rintro (h | h | h | h | h | h | ⟨h,h3⟩ | ⟨h,h3⟩) <;> first | omega | cases h)
   simp only [b34] at e;have hh:=anh n l p m i a b;rw [e] at hh;exact hh
 cases h1;have h2:i < m.length:=h2
 have e:=xr (mu:=true) (i:=(i:Int)) (a:=(a:Int)) (b:=(b:Int)) hT hbe (by
  unfold ep
  rintro (h | h | h | h | h | h | ⟨h,h3⟩ | ⟨h,h3⟩) <;> first | omega | cases h)
 simp only [b34] at e;have hh:=amq n l p m i a b;rw [e] at hh;exact hh
end
section
open Go.Proofs
def aps (F:Nat) (n:Int) (l:List Rw) (p m:List Fd) (hF:tok n l = true -> muC l.flatten l < F) (hFb:F <= 4000000000):a8 b6e 92 [pT n l,pP (fdl p),pP (fdl m)] (aa [pP (stl (fk F n l p m).1),pT (fk F n l p m).2.1.1 (fk F n l p m).2.1.2,pI (fk F n l p m).2.2]):=by
 refine hpx (nt:=63) Tryz.func92 ?_;refine sx7 ?_;refine m9 0 ?_;refine qy ?_;refine m9 1 ?_;refine w_6 ?_;refine qcx a6n (a3d n l) ?_;refine w_2 ?_;refine hcv (fun h0=>?_) (fun h0=>?_)
 · refine w_7 ?_;refine hrr ?_;have hk1:ckE n l p m = 1:=if_neg b5w;have he:=a2r (F:=F) (n:=n) (l:=l) (p:=p) (m:=m) b5o;exact f9 rfl rfl (by rw [he,hk1];exact ⟨CoC.one (CoP.sl rfl (.inr rfl) (fun _=>rfl) (fun i j hi _=>absurd hi (b2y i))),CoC.agg ⟨CoP.refl _,au,trivial⟩,CoC.refl _,trivial⟩)
 have hT:tok n l = true:=by simp_all
 refine w_8 ?_;refine qcx z1 (sn n p m) ?_;refine w_7 ?_;refine hcn (fun h1=>?_) (fun h1=>?_)
 · refine w_8 ?_;refine hrr ?_;have hk1:ckE n l p m = bi n p m:=if_pos hT;have he:=a2r (F:=F) (n:=n) (l:=l) (p:=p) (m:=m) (by rw [hk1];assumption);exact f9 rfl rfl (by rw [he,hk1];exact ⟨CoC.one (CoP.sl rfl (.inr rfl) (fun _=>rfl) (fun i j hi _=>absurd hi (b2y i))),CoC.agg ⟨CoP.refl _,au,trivial⟩,CoC.refl _,trivial⟩)
 have hbe:bi n p m = 0:=by assumption
 have hck:ckE n l p m = 0:=(if_pos hT).trans hbe;obtain ⟨hn0,hn16,hpl,hpa,hml,_⟩:=sd hbe;obtain ⟨_,_,hl256,hrow⟩:=eu hT;have hbig:∀ i,i < l.length -> (l.getD i default).length <= 17592186044416:=fun i hi=>by rw [hrow i hi];omega
 refine w_7 ?_;refine qcx a72 (aj7 l hbig b5o) ?_;refine qy ?_;refine m9 2 ?_;refine w_7 ?_;refine dn 11 900 true 4 85 (lf St.c []) b5t rfl (CoP.sl rfl (.inr rfl) (fun h=>h) (fun i j hi _=>absurd hi (b2y i))) (.inr rfl) rfl ?_;refine a3a ?_;refine ak (ι:=Nat × List Rw × List St) (ka 1 (ka 2 (ka 7 (ka 10 kn)))) (kb 1 km) (fun x=>⟨[(11,some (.v (.one (.ref 900 x.2.2.length))))],[(2,some (.box [.p (.raw (.int .i64 n)), .p (rl x.2.1)])),(900,some (.arr true 4 85 x.2.2.length (lf St.c x.2.2)))]⟩) (fun x=>StI F n l p m x) (fun x=>x.1) ((F,l,[])) (StI.start hT (hF hT)) kk ?_;rintro x hX;have hXu:=hX.u;have hXb:=hX.b;refine w_6 ?_;refine qcx (wgx Tryz.func134) ((a3m (p:=p) (m:=m) hX.t ▸ auf n x.2.1 p m hX.t hpl hml)) ?_;refine w_3 ?_;refine m9 3 ?_;refine w_9 ?_;refine hcv (fun h2=>?_) (fun h2=>?_)
 · have hS:=af6 (by simpa [a3m hX.t] using h2);refine w_9 ?_;refine bf 6 rfl rfl rfl ?_;refine hrr ?_;have he:=(p6 hck).trans (hX.fin hS);exact f9 rfl rfl (by rw [he];exact CoL.refl _)
 have hS:=af9 (false,0,0,0) (by simpa [a3m hX.t] using h2);refine w_7 ?_;refine qcx (wgx Tryz.func85) (a83 n x.2.1 p m ((cw x.2.1 p m).getD (false,0,0,0)) ((if_pos hX.t).trans hbe) (a0w hS)) ?_;refine w_3 ?_;refine m9 4 ?_;refine w_9 ?_;refine hcn (fun h3=>?_) (fun h3=>?_)
 · refine w_8 ?_;refine hrr ?_;have he:=(p6 hck).trans (hX.err hS b5p);exact f9 rfl rfl (by rw [he];exact ⟨CoC.one (CoP.sl rfl (.inr rfl) (fun _=>rfl) (fun i j hi _=>absurd hi (b2y i))),CoC.agg ⟨CoP.refl _,au,trivial⟩,CoC.refl _,trivial⟩)
 have hnx:=hX.next hpa hS b5p
 refine w_4 ?_;refine m9 5 ?_;refine r9 6 true ?_;refine w_5 ?_;refine ⟨(x.1 - 1,(bu n x.2.1 p m ((cw x.2.1 p m).getD (false,0,0,0))).2.1,x.2.2 ++ [((cw x.2.1 p m).getD (false,0,0,0))]), ?_, ?_, ?_⟩
 · exact hnx.2
 · show x.1 - 1 < x.1
   omega
 exact ⟨⟨⟨_,rfl,(i6 rfl)⟩,tt⟩,⟨⟨_,rfl,⟨CoP.of_eq (by rw [hnx.1]),CoH.refl _,trivial⟩⟩,⟨_,rfl,(wh rfl (fun j hj=>by match j,hj with | 0,_=>exact CoP.refl _ | 1,_=>exact CoP.refl _ | 2,_=>exact CoP.refl _ | 3,_=>exact CoP.refl _) rfl)⟩,uu⟩⟩
end
end Go.Hx

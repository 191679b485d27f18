/- A part of the proof: X21 X22 X23 Ch19 X24 Ch20 Ch21 X27 Ch23 X28 Ch24. -/
import Derived.Test.YtkkenjdfbojdlaaGreatDoorIx28
set_option linter.all false
set_option maxRecDepth 100000
set_option maxHeartbeats 1000000
namespace Go.Hx
section
open Go.Proofs
def b0x (n:Int) (l:List Rw) (s:AS) (a b:Nat) (h0:0 <= n) (h1:n <= 16) (hrow:∀ i,i < l.length -> (l.getD i default).length = n.toNat) (hl2:l.length <= 4294967296) (ha:a < l.length) (hb:b < l.length) (hs:∀ j,j ∈ ak s -> j < n.toNat):a6 brj 181 [pT n l,pA s,pI (a:Int),pI (b:Int)] (a8 [pT n (au (dz l (eqMs (ci l) a b (ak s))))]):=by
 refine hpx (nt:=88) Tryz.func181 ?_;refine sx7 ?_;refine m9 0 ?_;refine m9 1 ?_;refine w_5 ?_;refine fc9 afi (ax1 l (fun i hi=>by rw [hrow i hi];omega) bqx) trivial ?_;refine w_8 ?_;refine b7 (ka 1 (ka 2 (ka 3 (ka 4 (ka 8 (ka 9 kn)))))) (kb 0 (kb 1 km)) (fun j=>⟨[(10,some (vI j))],[(901,some (.nest 84 3 1 l.length (fun i=>(l.getD i default).length) (mg (eqMs (ci l) a b (eo s j))) none))]⟩) n.toNat kk ?_;rintro j hj;refine w_2 ?_;have hra:=hrow a ha;have hrb:=hrow b hb;refine w_6 ?_;refine hcd (fun h0=>?_) (fun h0=>?_)
 ·
  refine bz ?_;(iterate 2 refine rq rfl rfl rfl rfl rfl ?_ (hp:=(by (try simp only [bmz,nM]);(repeat' apply And.intro) <;> first | trivial | rfl | omega | exact bmn rfl)));refine w_5 ?_;(iterate 2 refine rq rfl rfl rfl rfl rfl ?_ (hp:=(by (try simp only [bmz,nM]);(repeat' apply And.intro) <;> first | trivial | rfl | omega | exact bmn rfl)));refine w_9 ?_
  refine qcx oq (a2g s (j:Int)) ?_;refine w_2 ?_;refine ai rfl rfl (fun r1=>?_) (fun r1=>?_)
  ·
   have h1:=cu r1;(iterate 3 refine k9 (gtf r1) ?_);refine rq rfl rfl rfl rfl rfl ?_ (hp:=r1);refine w_8 ?_
   exact lpx (j + 1) ⟨tt,⟨⟨_,rfl,(by first | (rw [qu bqx bqy];exact CoO.refl _) | (rw [nk bqx bqy,tz,vq bqy];exact CoO.refl _) | (rw [nk bqx bqy,tz];exact tc (a0w bqx)))⟩,uu⟩⟩
  have h1:=ct r1;(iterate 3 refine qy ?_ (hg:=(gff r1)));refine w_2 ?_;refine aj _ rfl (fun r2=>?_) (fun r2=>?_)
  · have h2:=tz1 (av r1 r2);refine w_6 ?_;exact lpx (j + 1) ⟨tt,⟨⟨_,rfl,(by first | (rw [qu bqx bqy];exact CoO.refl _) | (rw [nk bqx bqy,tz,vq bqy];exact CoO.refl _) | (rw [nk bqx bqy,tz];exact tc (a0w bqx)))⟩,uu⟩⟩
  have h2:=tz2 (av r1 r2);refine w_8 ?_;refine kg (ka 1 (ka 2 (ka 3 (ka 4 (ka 8 (ka 9 (ka 10 kn))))))) (kb 0 (kb 1 km)) ⟨[(13,some (vI (loI ((eqMs (ci l) a b (eo s j)) a j) ((eqMs (ci l) a b (eo s j)) b j)))),(14,some (vI (hiI ((eqMs (ci l) a b (eo s j)) a j) ((eqMs (ci l) a b (eo s j)) b j))))],[(901,some (.nest 84 3 1 l.length (fun i=>(l.getD i default).length) (mg (eqMs (ci l) a b (eo s j))) none))]⟩ ?_ ?_
  ·
   refine w_6 ?_;refine hcd (fun h3=>?_) (fun h3=>?_)
   · refine w_6 ?_;exact ⟨⟨⟨_,rfl,(bn (by simp only [bmz];unfold loI;split <;> omega))⟩,⟨_,rfl,(bn (by simp only [bmz];unfold hiI;split <;> omega))⟩,tt⟩,uu⟩
   refine d6 ?_;exact ⟨⟨⟨_,rfl,(bn (by simp only [bmz];unfold loI;split <;> omega))⟩,⟨_,rfl,(bn (by simp only [bmz];unfold hiI;split <;> omega))⟩,tt⟩,uu⟩
  refine w_5 ?_;refine b7 (ka 1 (ka 2 (ka 3 (ka 4 (ka 8 (ka 9 (ka 10 (ka 13 (ka 14 kn))))))))) (kb 0 (kb 1 km)) (fun i=>⟨[(15,some (vI i))],[(901,some (.nest 84 3 1 l.length (fun i=>(l.getD i default).length) (mg (n9 (eqMs (ci l) a b (eo s j)) (hiI ((eqMs (ci l) a b (eo s j)) a j) ((eqMs (ci l) a b (eo s j)) b j)) (loI ((eqMs (ci l) a b (eo s j)) a j) ((eqMs (ci l) a b (eo s j)) b j)) i 0)) none))]⟩) l.length ⟨tt,⟨⟨_,rfl,(by rw [aig];exact CoO.refl _)⟩,trivial⟩⟩ ?_;rintro i hi;refine w_8 ?_;refine hcd (fun h4=>?_) (fun h4=>?_)
  ·
   have hri:=hrow i bqx;refine w_8 ?_;refine b7 (ka 1 (ka 2 (ka 3 (ka 4 (ka 8 (ka 9 (ka 10 (ka 13 (ka 14 (ka 15 kn)))))))))) (kb 0 (kb 1 km)) (fun k=>⟨[(16,some (vI k))],[(901,some (.nest 84 3 1 l.length (fun i=>(l.getD i default).length) (mg (n9 (eqMs (ci l) a b (eo s j)) (hiI ((eqMs (ci l) a b (eo s j)) a j) ((eqMs (ci l) a b (eo s j)) b j)) (loI ((eqMs (ci l) a b (eo s j)) a j) ((eqMs (ci l) a b (eo s j)) b j)) i k)) none))]⟩) n.toNat kk ?_;rintro k hk;refine w_8 ?_;refine hcd (fun h5=>?_) (fun h5=>?_)
   ·
    refine bz ?_;(iterate 2 refine rq rfl rfl rfl rfl rfl ?_ (hp:=(by (try simp only [bmz,nM]);(repeat' apply And.intro) <;> first | trivial | rfl | omega | exact bmn rfl)));refine w_3 ?_;refine hcd (fun h6=>?_) (fun h6=>?_)
    · refine w_7 ?_;refine rq rfl rfl rfl rfl rfl ?_ (hp:=(by (try simp only [bmz,nM]);(repeat' apply And.intro) <;> first | trivial | rfl | omega | exact bmn rfl));refine rs rfl rfl rfl rfl rfl ?_ (hp:=(by (try simp only [bmz,nM]);(repeat' apply And.intro) <;> first | trivial | rfl | omega | exact bmn rfl));refine w_6 ?_;exact lpx (k + 1) ⟨tt,⟨⟨_,rfl,(by first | exact a9b (acr bqy) br1 br1 | (rw [acy bqy];exact CoO.refl _))⟩,uu⟩⟩
    refine w_6 ?_;exact lpx (k + 1) ⟨tt,⟨⟨_,rfl,(by first | exact a9b (acr bqy) br1 br1 | (rw [acy bqy];exact CoO.refl _))⟩,uu⟩⟩
   refine w_6 ?_;exact lpx (i + 1) ⟨tt,⟨⟨_,rfl,(tc (am1 bqx))⟩,uu⟩⟩
  refine w_6 ?_;exact lpx (j + 1) ⟨tt,⟨⟨_,rfl,(by first | (rw [qu bqx bqy];exact CoO.refl _) | (rw [nk bqx bqy,tz,vq bqy];exact CoO.refl _) | (rw [nk bqx bqy,tz];exact tc (a0w bqx)))⟩,uu⟩⟩
 obtain rfl:j = n.toNat:=by omega
 refine w_2 ?_;have hme:=az1 (s:=s) (n:=n.toNat) bqx hs;refine as2 901 rfl ?_;refine al 9 rfl rfl rfl ?_;refine w_4 ?_;refine rc rfl rfl rfl rfl rfl rfl agj (abv n (dz l (eqMs (ci l) a b (ak s))) (by rw [mq];omega)) (⟨CoC.refl _,CoC.one (by rw [hme];exact b2n rfl),trivial⟩) rfl rfl ?_;refine v_2 ?_;exact CoL.refl _
end
section
open Go.Proofs
def bra {p:Prop} (h:p:=by first | omega | (simp only [bmz];omega)):p:=h
def brh {p:Prop} (h:p:=by first | exact vt bqx bqy bqx bqx | exact wg (bmx.1 bqy)):p:=h
def bjc (n:Int) (l:List Rw) (x:Fd) (a b:Nat) (h0:0 <= n) (h1:n <= 16) (hrow:∀ i,i < l.length -> (l.getD i default).length = n.toNat) (hl2:l.length <= 4294967296) (ha:a < l.length) (hb:b < l.length):a6 brj 180 [pT n l,x.pc,pI (a:Int),pI (b:Int)] (a8 [pT n (au (l ++ [(dy (l.getD a default) (l.getD b default) (x.lhs ||| x.rhs))]))]):=by
 refine hpx (nt:=51) Tryz.func180 ?_;refine sx7 ?_;refine m9 0 ?_;refine m9 1 ?_;refine m9 2 ?_;refine w_2 ?_;have hra:=hrow a ha;have hrb:=hrow b hb;refine gy ?_;refine m9 3 ?_;refine w_5 ?_;refine r9 4 true ?_;refine w_8 ?_;refine b7 (ka 2 (ka 4 (ka 5 (ka 8 (ka 9 kn))))) (kb 0 (kb 1 (kb 2 km))) (fun j=>⟨[(10,some (vI j))],[(3,some (.arr true 1 3 (0 + (l.getD b default).length) (lf zC (mt (l.getD a default) (l.getD b default) (x.lhs ||| x.rhs) j))))]⟩) n.toNat ⟨tt,⟨⟨_,rfl,(al5 (fun _ _=>rfl))⟩,trivial⟩⟩ ?_;rintro j hj;refine w_8 ?_;refine hcd (fun h0=>?_) (fun h0=>?_)
 ·
  refine cq ?_;refine rc rfl rfl rfl rfl rfl rfl oq (a2g (x.lhs ||| x.rhs) (j:Int)) (⟨cci (by rw [bOr]),CoC.refl _,trivial⟩) rfl rfl ?_;refine c6 ?_;refine hcb (fun h1=>?_) (fun h1=>?_)
  · refine w_9 ?_;(iterate 3 refine rq rfl rfl rfl rfl rfl ?_ (hp:=(by (try simp only [bmz,nM]);(repeat' apply And.intro) <;> first | trivial | rfl | omega | exact bmn rfl)));refine rs rfl rfl rfl rfl rfl ?_ (hp:=(by (try simp only [bmz,nM]);(repeat' apply And.intro) <;> first | trivial | rfl | omega | exact bmn rfl));refine w_6 ?_;exact lpx (j + 1) ⟨tt,⟨⟨_,rfl,brh⟩,uu⟩⟩
  refine w_6 ?_;exact lpx (j + 1) ⟨tt,⟨⟨_,rfl,brh⟩,uu⟩⟩
 obtain rfl:j = n.toNat:=by omega
 refine w_2 ?_;refine al 9 rfl rfl rfl ?_;refine w_5 ?_;refine fc9 afi (aoc l (fun i hi=>by rw [hrow i hi];omega) bqx) trivial ?_;refine qy ?_;refine m9 5 ?_;refine r9 6 true ?_;refine fj rfl rfl rfl rfl rfl rfl agj (a6.eat (hcs:=[.one (.p (.raw (.int .i64 n))), .one (.ref 901 (l ++ [(dy (l.getD a default) (l.getD b default) (x.lhs ||| x.rhs))]).length)]) (o1:=[(901, .arr true 1 84 (l ++ [(dy (l.getD a default) (l.getD b default) (x.lhs ||| x.rhs))]).length (lf rC (l ++ [(dy (l.getD a default) (l.getD b default) (x.lhs ||| x.rhs))])))]) (abv n (l ++ [(dy (l.getD a default) (l.getD b default) (x.lhs ||| x.rhs))]) br8) rfl (by (repeat' apply And.intro) <;> first | trivial | rfl) (CoL.refl _)) (⟨CoP.refl _,congrArg (HV.ref 901) br1,trivial⟩) ⟨⟨_,rfl,(bg rfl (aql bra bra))⟩,trivial⟩ rfl rfl ?_;refine v_3 ?_;exact CoL.refl _
end
section
open Go.Proofs
def bl2 (n:Int) (l:List Rw) (p m:List Fd) (i a b:Nat) (h0:0 <= n) (h1:n <= 16) (hrow:∀ i,i < l.length -> (l.getD i default).length = n.toNat) (ha:a < l.length) (hb:b < l.length) (hi:i < p.length):a6 brj 228 [pT n l,pP (fdl p),pP (fdl m), .agg [.raw (.bool false), .raw (.int .i64 (i:Int)), .raw (.int .i64 (a:Int)), .raw (.int .i64 (b:Int))]] (a8 [pB (fc l (p.getD i default) a b)]):=by
 refine hpx (nt:=85) Tryz.func228 ?_;refine sx7 ?_;refine m9 0 ?_;refine m9 1 ?_;refine w_3 ?_;have hra:=hrow a ha;have hrb:=hrow b hb;refine avg ?_;refine w_3 ?_;refine qcx a32 (a3s (l.getD a default) (l.getD b default) (p.getD i default).lhs bqx bqx) ?_;refine qy ?_;refine ai rfl rfl (fun r0=>?_) (fun r0=>?_)
 ·
  have h0:=r0;(iterate 8 refine qy ?_ (hg:=(gtt r0)));refine qcx a32 (a3s (l.getD a default) (l.getD b default) (p.getD i default).rhs bqx bqx) ?_ (hg:=(gtt r0));refine qy ?_ (hg:=(gtt r0));refine w_3 ?_
  exact hx8 rfl rfl rfl (⟨ccb (by first | exact (a48 bqy).symm | simp_all [fc]),trivial⟩)
 have h0:=r0;(iterate 10 refine k9 (gft r0) ?_);refine rq rfl rfl rfl rfl rfl ?_ (hp:=r0);refine w_2 ?_
 exact hx8 rfl rfl rfl (⟨ccb (by first | exact (a48 bqy).symm | simp_all [fc]),trivial⟩)
def bku (n:Int) (l:List Rw) (p m:List Fd) (i a b:Nat) (h0:0 <= n) (h1:n <= 16) (hrow:∀ i,i < l.length -> (l.getD i default).length = n.toNat) (ha:a < l.length) (hb:b < l.length) (hi:i < m.length):a6 brj 228 [pT n l,pP (fdl p),pP (fdl m), .agg [.raw (.bool true), .raw (.int .i64 (i:Int)), .raw (.int .i64 (a:Int)), .raw (.int .i64 (b:Int))]] (a8 [pB (a8i l (m.getD i default) a b)]):=by
 refine hpx (nt:=85) Tryz.func228 ?_;refine sx7 ?_;refine m9 0 ?_;refine m9 1 ?_;refine w_3 ?_;have hra:=hrow a ha;have hrb:=hrow b hb;refine avg ?_;refine qy ?_;refine m9 2 ?_;refine w_9 ?_;refine qcx a32 (a3s (l.getD a default) (l.getD b default) (m.getD i default).lhs bqx bqx) ?_;refine w_2 ?_;refine hcv (fun h0=>?_) (fun h0=>?_)
 · refine v_4 ?_;exact ⟨ccb (by unfold a8i;simp_all),trivial⟩
 refine w_3 ?_;refine m9 3 ?_;refine qy ?_;refine r9 4 true ?_;refine w_8 ?_;refine b7 (ka 4 (ka 9 (ka 11 (ka 12 kn)))) (kb 0 (kb 2 km)) (fun j=>⟨[(13,some (vI j))],[(3,some (.arr true 1 3 (0 + (l.getD b default).length) (lf zC (mt (l.getD a default) (l.getD b default) (m.getD i default).rhs j))))]⟩) n.toNat ⟨tt,⟨⟨_,rfl,(al5 (fun _ _=>rfl))⟩,trivial⟩⟩ ?_;rintro j hj;refine w_8 ?_;refine hcd (fun h1=>?_) (fun h1=>?_)
 ·
  refine w_8 ?_;refine qcx oq (a2g (m.getD i default).rhs (j:Int)) ?_;refine c6 ?_;refine hcb (fun h2=>?_) (fun h2=>?_)
  · refine w_5 ?_;(iterate 3 refine rq rfl rfl rfl rfl rfl ?_ (hp:=(by (try simp only [bmz,nM]);(repeat' apply And.intro) <;> first | trivial | rfl | omega | exact bmn rfl)));refine rs rfl rfl rfl rfl rfl ?_ (hp:=(by (try simp only [bmz,nM]);(repeat' apply And.intro) <;> first | trivial | rfl | omega | exact bmn rfl));refine w_6 ?_;exact lpx (j + 1) ⟨tt,⟨⟨_,rfl,brh⟩,uu⟩⟩
  refine w_6 ?_;exact lpx (j + 1) ⟨tt,⟨⟨_,rfl,brh⟩,uu⟩⟩
 obtain rfl:j = n.toNat:=by omega
 refine w_2 ?_;refine al 12 rfl rfl rfl ?_;refine w_3 ?_;refine rc rfl rfl rfl rfl rfl rfl akv (ao3 n l (dy (l.getD a default) (l.getD b default) (m.getD i default).rhs)) (⟨CoC.refl _,aql bra bra,trivial⟩) rfl rfl ?_;refine v_3 ?_;exact ⟨ccb (by unfold a8i;simp_all),trivial⟩
end
section
open Go.Proofs
def muK (p:List Fd) (k:Nat):Bool:=decide (p.length <= k)
def ixK (p:List Fd) (k:Nat):Nat:=if p.length <= k then k - p.length else k
def chE (l:List Rw) (p m:List Fd) (s:St):Bool:=if s.1 = true then a8i l (m.getD s.2.1 default) s.2.2.1 s.2.2.2 else fc l (p.getD s.2.1 default) s.2.2.1 s.2.2.2
def cCh (n:Int) (l:List Rw) (p m:List Fd) (k a b:Nat) (hT:tok n l = true) (ha:a < l.length) (hb:b < l.length) (hk:k < p.length + m.length) :
 a6 brj 228 [pT n l,pP (fdl p),pP (fdl m),St.pc (muK p k,ixK p k,a,b)] (a8 [pB (chE l p m (muK p k,ixK p k,a,b))]):=by
 obtain ⟨h0,h1,h2,h3⟩:=jn hT;by_cases h:p.length <= k
 · have e1:muK p k = true:=decide_eq_true h
   have e2:ixK p k = k - p.length:=if_pos h;rw [e1,e2];exact bku n l p m (k - p.length) a b h0 h1 h3 ha hb bqx
 have e1:muK p k = false:=decide_eq_false h;have e2:ixK p k = k:=if_neg h;rw [e1,e2];exact bl2 n l p m k a b h0 h1 h3 ha hb bqx
def ju (l:List Rw) (p m:List Fd) (k a b:Nat):Bool:=decide (a ≠ b) && chE l p m (muK p k,ixK p k,a,b)
def a1j (l:List Rw) (p m:List Fd):Option St:=(fz (ju l p m) (p.length + m.length) l.length).map fun x=>(muK p x.1,ixK p x.1,x.2.1,x.2.2)
section
variable {l:List Rw} {p m:List Fd} {k a b:Nat}
def bbl (h:¬ a = b) (h2:chE l p m (muK p k,ixK p k,a,b) = true):ju l p m k a b = true:=by unfold ju;rw [decide_eq_true h,h2];rfl
def ap5 (h:a = b):ju l p m k a b = false:=by unfold ju;rw [decide_eq_false (fun e=>e h)];rfl
def al9 (h2:chE l p m (muK p k,ixK p k,a,b) = false):ju l p m k a b = false:=by unfold ju;rw [h2,bqv]
def b89 (h:fz (ju l p m) (p.length + m.length) l.length = some (k,a,b)):a1j l p m = some (muK p k,ixK p k,a,b):=by unfold a1j;rw [h];rfl
def b8h (h:fz (ju l p m) (p.length + m.length) l.length = none):a1j l p m = none:=by unfold a1j;rw [h];rfl
end
end
section
open Go.Proofs
def bfc (n:Int) (l:List Rw) (p m:List Fd) (hT:tok n l = true) (hp:p.length <= 64) (hm:m.length <= 64):a6 brj 183 [pT n l,pP (fdl p),pP (fdl m)] (a8 [St.pc ((a1j l p m).getD (false,0,0,0)),pB (a1j l p m).isSome]):=by
 refine hpx (nt:=66) Tryz.func183 ?_;refine cg ?_;obtain ⟨hn0,hn16,hl256,hrow⟩:=jn hT;refine ca 1 rfl fun hn1=>?_;refine ca 2 rfl fun hn2=>?_;refine gy ?_;refine m9 0 ?_;refine m9 1 ?_;refine w_8 ?_;refine ae (ι:=Nat) (ka 1 (ka 2 (ka 3 (ka 6 kn)))) (kb 0 (kb 1 km)) (fun k=>⟨[(8,some (vI k))],[]⟩) (fun k=>k <= p.length + m.length /\ ∀ i',i' < k -> ∀ a',a' < l.length -> ∀ b',b' < l.length -> ju l p m i' a' b' = false) (fun k=>p.length + m.length - k) (0) (⟨bms _,bq⟩) kk ?_;rintro k ⟨hk,hK⟩;refine cq ?_;refine hcd (fun h0=>?_) (fun h0=>?_)
 ·
  refine w_7 ?_;refine m9 2 ?_;refine w_2 ?_;refine kg (ka 1 (ka 2 (ka 3 (ka 6 (ka 8 (ka 9 kn)))))) (kb 0 (kb 1 km)) ⟨[],[(2,some (.box [.p (.raw (.bool (muK p k))), .p (.raw (.int .i64 (ixK p k:Int))), .p (.raw (.int .i64 0)), .p (.raw (.int .i64 0))]))]⟩ ?_ ?_
  ·
   refine w_7 ?_;refine hcd (fun h1=>?_) (fun h1=>?_)
   · refine w_8 ?_;exact ⟨tt,⟨⟨_,rfl,(by unfold muK ixK;first | (rw [decide_eq_true bqx,if_pos bqx];refine ⟨CoP.refl _,CoP.of_eq (by congr 2;omega),CoP.refl _,CoP.refl _,trivial⟩) | (rw [decide_eq_false bqx,if_neg bqx];exact ⟨CoP.refl _,CoP.refl _,CoP.refl _,CoP.refl _,trivial⟩))⟩,uu⟩⟩
   refine d6 ?_;exact ⟨tt,⟨⟨_,rfl,(by unfold muK ixK;first | (rw [decide_eq_true bqx,if_pos bqx];refine ⟨CoP.refl _,CoP.of_eq (by congr 2;omega),CoP.refl _,CoP.refl _,trivial⟩) | (rw [decide_eq_false bqx,if_neg bqx];exact ⟨CoP.refl _,CoP.refl _,CoP.refl _,CoP.refl _,trivial⟩))⟩,uu⟩⟩
  refine w_6 ?_;refine ae (ι:=Nat × Nat) (ka 1 (ka 2 (ka 3 (ka 6 (ka 8 (ka 9 kn)))))) (kb 0 (kb 1 km)) (fun y=>⟨[],[(2,some (.box [.p (.raw (.bool (muK p k))), .p (.raw (.int .i64 (ixK p k:Int))), .p (.raw (.int .i64 (y.1:Int))), .p (.raw (.int .i64 (y.2:Int)))]))]⟩) (fun y=>y.1 <= l.length /\ ∀ a',a' < y.1 -> ∀ b',b' < l.length -> ju l p m k a' b' = false) (fun y=>l.length - y.1) ((0,0)) (⟨bms _,bq⟩) kk ?_;rintro y ⟨hy,hA⟩;refine bz ?_;refine hcd (fun h2=>?_) (fun h2=>?_)
  ·
   refine w_9 ?_;refine ae (ι:=Nat) (ka 1 (ka 2 (ka 3 (ka 6 (ka 8 (ka 9 kn)))))) (kb 0 (kb 1 km)) (fun b=>⟨[],[(2,some (.box [.p (.raw (.bool (muK p k))), .p (.raw (.int .i64 (ixK p k:Int))), .p (.raw (.int .i64 (y.1:Int))), .p (.raw (.int .i64 (b:Int)))]))]⟩) (fun b=>b <= l.length /\ ∀ b',b' < b -> ju l p m k y.1 b' = false) (fun b=>l.length - b) (0) (⟨bms _,bq⟩) kk ?_;rintro b ⟨hb,hB⟩;refine bz ?_;refine hcd (fun h3=>?_) (fun h3=>?_)
   ·
    refine cq ?_;refine ai rfl rfl (fun r4=>?_) (fun r4=>?_)
    ·
     have h4:=tz2 (cu r4);(iterate 4 refine qy ?_ (hg:=(gtt r4)));refine qcx (wgx Tryz.func228) (cCh n l p m k y.1 b hT bqx bqx bqx) ?_ (hg:=(gtt r4));refine w_2 ?_;refine aj _ rfl (fun r5=>?_) (fun r5=>?_)
     · have h5:=bt r4 r5;refine w_6 ?_;refine hrr ?_;have he:=b89 (a2i (P:=ju l p m) (i:=k) (a:=y.1) (b:=b) bqx bqx bqx (bbl bqx bqy) hK hA hB);exact f9 rfl rfl (by rw [he];exact CoL.refl _)
     have h5:=bt r4 r5;refine w_8 ?_;refine lpz (b + 1) kk ?_;exact ⟨by show b + 1 <= _;omega,aw hB (by first | exact ap5 bqx | exact al9 bqy)⟩
    have h4:=tz1 (ct r4);(iterate 5 refine k9 (gft r4) ?_);refine rq rfl rfl rfl rfl rfl ?_ (hp:=r4);refine bz ?_;refine lpz (b + 1) kk ?_
    exact ⟨by show b + 1 <= _;omega,aw hB (by first | exact ap5 bqx | exact al9 bqy)⟩
   refine w_8 ?_;refine lpz (y.1 + 1,b) kk ?_;exact ⟨by show y.1 + 1 <= _;omega,aw hA (fun b' hb'=>hB b' bqx)⟩
  refine w_6 ?_;refine lpz (k + 1) kk ?_;exact ⟨by show k + 1 <= _;omega,aw hK (fun a' ha'=>hA a' bqx)⟩
 refine w_7 ?_;refine hrr ?_;have he:=b8h (a2j (P:=ju l p m) (I:=p.length + m.length) (L:=l.length) fun j hj=>hK j bqx);exact f9 rfl rfl (by rw [he];exact CoL.refl _)
end
section
def a0c {α:Type} {f g:Nat -> Option α}:∀ {ks:List Nat},(∀ k,k ∈ ks -> f k = g k) -> ks.findSome? f = ks.findSome? g
 | [],_=>rfl
 | k :: ks,h=>by
  have h1:=h k br1;have h2:=a0c (ks:=ks) fun j hj=>h j (by simp [hj]);simp only [List.findSome?_cons,h1,h2]
def ab2 {p q:Nat -> Bool}:∀ {ks:List Nat},(∀ k,k ∈ ks -> p k = q k) -> ks.find? p = ks.find? q
 | [],_=>rfl
 | k :: ks,h=>by
  have h1:=h k br1;have h2:=ab2 (ks:=ks) fun j hj=>h j (by simp [hj]);simp only [List.find?_cons,h1,h2]
def b9o {s t:AS} {i:Nat}:d9 (s ||| t) (i:Int) = (d9 s (i:Int) || d9 t (i:Int)):=by
 by_cases h:i < 32
 · rw [gm h,gm h,gm h,bo9]
 rw [a03 bqx,a03 bqx,a03 bqx];rfl
def b8j {a b:Rw} {s t:AS} (hl:a.length = b.length) (h:lm a b s = true):dy a b t = dy a b (s ||| t):=by
 have h:=of_decide_eq_true h;unfold dy;refine bp2 fun i hi=>?_;have hi:=bn3.1 hi;rw [b9o];by_cases h1:d9 s (i:Int) = true
 · have:=h i bqx h1
   rw [h1,Bool.true_or,if_pos rfl];split
   · rfl
   exact this.symm
 rw [bmx.2 h1,bqi]
def b3w (a:Rw) (s:AS):dy a a s = a:=by
 refine oz (py a a s) fun j hj=>?_;rw [py] at hj;unfold dy;rw [bmm,bnc,boa hj];show (if d9 s (j:Int) = true then a.getD j default else a.getD j default) = _;split <;> rfl
section
variable {a:Nat} {l:List Rw}
def a4s {x:Fd}:fc l x a a = false:=aat (a3r fun _ _ _=>rfl)
def a56 {x:Fd} (ha:a < l.length):ff l x a a = false:=by
 refine abo ?_;rw [b3w,bno];exact ⟨_,a2x ha,decide_eq_true rfl⟩
def b2x {n:Int} {x:Fd} {b:Nat} (hT:tok n l = true) (ha:a < l.length) (hb:b < l.length):a8i l x a b = ff l x a b:=by
 obtain ⟨_,_,_,h3⟩:=jn hT;unfold a8i ff;by_cases h:lm (l.getD a default) (l.getD b default) x.lhs = true
 · rw [b8j (by rw [h3 a ha,h3 b hb]) h]
 rw [bmx.2 h];rfl
def bbr {p m:List Fd} {k b:Nat} (hk:k < p.length):ju l p m k a b = fc l (p.getD k default) a b:=by
 have e1:muK p k = false:=decide_eq_false bqx;have e2:ixK p k = k:=if_neg bqx;unfold ju;rw [e1,e2];by_cases h:a = b
 · subst h;rw [a4s,decide_eq_false (fun e=>e rfl)];rfl
 rw [decide_eq_true h];rfl
def b6d {n:Int} {p m:List Fd} {k b:Nat} (hT:tok n l = true) (ha:a < l.length) (hb:b < l.length):ju l p m (p.length + k) a b = ff l (m.getD k default) a b:=by
 have e1:muK p (p.length + k) = true:=decide_eq_true bqx;have e2:ixK p (p.length + k) = k:=(if_pos bqx).trans bqx;unfold ju;rw [e1,e2];by_cases h:a = b
 · subst h;rw [a56 ha,decide_eq_false (fun e=>e rfl)];rfl
 rw [decide_eq_true h,<- b2x hT ha hb];rfl
def ac1 {n:Int} {p m:List Fd} (hT:tok n l = true):a1j l p m = ez l p m:=by
 have e1:(List.range p.length).findSome? (fun i=>(List.range l.length).findSome? fun a=>((List.range l.length).find? fun b=>ju l p m i a b).map fun b=>(i,a,b)) = fz (fun i a b=>fc l (p.getD i default) a b) p.length l.length :=
  a0c fun i hi=>a0c fun a _=>by rw [ab2 fun b _=>bbr (bn3.1 hi)]
 have e2:(List.range m.length).findSome? (fun i=>(List.range l.length).findSome? fun a=>((List.range l.length).find? fun b=>ju l p m (p.length + i) a b).map fun b=>(p.length + i,a,b)) = (fz (fun i a b=>ff l (m.getD i default) a b) m.length l.length).map fun x=>(p.length + x.1,x.2):=by
  unfold fz;rw [List.map_findSome?];refine a0c fun i _=>?_;show _ = Option.map _ ((List.range l.length).findSome? _);rw [List.map_findSome?];refine a0c fun a ha=>?_;rw [ab2 fun b hb=>b6d hT (bn3.1 ha) (bn3.1 hb)];show _ = Option.map _ (Option.map _ _);rw [Option.map_map];rfl
 have e:fz (ju l p m) (p.length + m.length) l.length = (fz (fun i a b=>fc l (p.getD i default) a b) p.length l.length).or ((fz (fun i a b=>ff l (m.getD i default) a b) m.length l.length).map fun x=>(p.length + x.1,x.2)):=by
  rw [<- e1,<- e2];unfold fz;rw [List.range_add,bqw,List.findSome?_map];rfl
 unfold a1j ez;rw [e]
 cases h:fz (fun i a b=>fc l (p.getD i default) a b) p.length l.length with
 | some x =>
  obtain ⟨i,a,b⟩:=x;have hi:=(a5e h).1;show some (muK p i,ixK p i,a,b) = some (false,i,a,b);rw [show muK p i = false from decide_eq_false bqx,show ixK p i = i from if_neg bqx]
 | none =>
  rw [Option.none_or]
  cases fz (fun i a b=>ff l (m.getD i default) a b) m.length l.length with
  | none=>rfl
  | some x =>
   obtain ⟨i,a,b⟩:=x;show some (muK p (p.length + i),ixK p (p.length + i),a,b) = some (true,i,a,b);rw [show muK p (p.length + i) = true from decide_eq_true bqx,show ixK p (p.length + i) = i from (if_pos bqx).trans bqx]
end
end
section
def ir (l:List Rw) (p m:List Fd) (mu:Bool) (i a b:Int):Prop:=a < 0 \/ (l.length:Int) <= a \/ b < 0 \/ (l.length:Int) <= b \/ a = b \/ i < 0 \/ (mu = true /\ (m.length:Int) <= i) \/ (mu = false /\ (p.length:Int) <= i)
instance (l:List Rw) (p m:List Fd) (mu:Bool) (i a b:Int):Decidable (ir l p m mu i a b):=by unfold ir;infer_instance
def bdS {l:List Rw} {p m:List Fd} {mu:Bool} {i a b:Int} (h:ir l p m mu i a b:=by unfold ir;first | exact .inl bqx | exact .inr (.inl bqx) | exact .inr (.inr (.inl bqx)) | exact .inr (.inr (.inr (.inl bqx))) | exact .inr (.inr (.inr (.inr (.inl bqx)))) | exact .inr (.inr (.inr (.inr (.inr (.inl bqx))))) | exact .inr (.inr (.inr (.inr (.inr (.inr (.inl ⟨by first | rfl | assumption | simp_all,by omega⟩)))))) | exact .inr (.inr (.inr (.inr (.inr (.inr (.inr ⟨by first | rfl | assumption | simp_all,by omega⟩))))))):ir l p m mu i a b:=h
def eq (n:Int) (l:List Rw) (p m:List Fd) (mu:Bool) (i a b:Int):Int × List Rw × Int :=
 if ckE n l p m = 0 then if ir l p m mu i a b then (0,[],1) else dx n l p m (mu,i.toNat,a.toNat,b.toNat) else (0,[],ckE n l p m)
section
variable {n:Int} {l:List Rw} {p m:List Fd} {mu:Bool} {i a b:Int}
def al8 (h:tok n l = false):eq n l p m mu i a b = (0,[],1):=by
 have e:ckE n l p m = 1:=if_neg (by rw [h];decide);unfold eq;rw [e];rfl
def amu (h:tok n l = true) (h2:¬ br n p m = 0):eq n l p m mu i a b = (0,[],br n p m):=by
 have e:ckE n l p m = br n p m:=if_pos h;unfold eq;rw [e,if_neg h2]
def j4 (h:tok n l = true) (h2:br n p m = 0) (h3:ir l p m mu i a b):eq n l p m mu i a b = (0,[],1):=by
 have e:ckE n l p m = br n p m:=if_pos h;unfold eq;rw [e,if_pos h2,if_pos h3]
def a4q (h:tok n l = true) (h2:br n p m = 0) (h3:¬ ir l p m mu i a b):eq n l p m mu i a b = dx n l p m (mu,i.toNat,a.toNat,b.toNat):=by
 have e:ckE n l p m = br n p m:=if_pos h;unfold eq;rw [e,if_pos h2,if_neg h3]
end
end
section
open Go.Proofs
def b2f (n:Int) (l:List Rw) (p m:List Fd) (i a b:Int):a6 brj 131 [pT n l,pP (fdl p),pP (fdl m), .agg [.raw (.bool true), .raw (.int .i64 i), .raw (.int .i64 a), .raw (.int .i64 b)]] (a8 [pT (eq n l p m true i a b).1 (eq n l p m true i a b).2.1,pI (eq n l p m true i a b).2.2]):=by
 refine hpx (nt:=158) Tryz.func131 ?_;refine sx7 ?_;refine m9 0 ?_;refine m9 1 ?_;refine m9 2 ?_;refine w_6 ?_;refine qcx ahg (abc n l) ?_;refine w_2 ?_;refine hcv (fun h0=>?_) (fun h0=>?_)
 · refine w_6 ?_;refine hrr ?_;have he:=al8 (n:=n) (l:=l) (p:=p) (m:=m) (mu:=true) (i:=i) (a:=a) (b:=b) br9;exact f9 rfl rfl (by rw [he];exact ⟨CoC.agg ⟨CoP.refl _,be,trivial⟩,CoC.refl _,trivial⟩)
 have hT:tok n l = true:=by simp_all
 obtain ⟨hn0,hn16,hl256,hrow⟩:=jn hT;refine w_8 ?_;refine qcx a6f (a0h n p m) ?_;refine w_7 ?_;refine hcn (fun h1=>?_) (fun h1=>?_)
 · refine w_7 ?_;refine hrr ?_;have he:=amu (mu:=true) (i:=i) (a:=a) (b:=b) hT bqy;exact f9 rfl rfl (by rw [he];exact ⟨CoC.agg ⟨CoP.refl _,be,trivial⟩,CoC.refl _,trivial⟩)
 have hbe:br n p m = 0:=by assumption
 obtain ⟨_,_,hpl,hpa,hml,_⟩:=l7 hbe;refine n7 ?_;refine ai rfl rfl (fun r2=>?_) (fun r2=>?_)
 ·
  have h2:=tz1 r2;(iterate 4 refine k9 (gtf r2) ?_);refine rq rfl rfl rfl rfl rfl ?_ (hp:=r2);refine qy ?_;(iterate 3 refine k9 rfl ?_);refine w_2 ?_;(iterate 4 refine k9 rfl ?_);refine w_2 ?_;(iterate 5 refine k9 rfl ?_);refine w_2 ?_
  (iterate 3 refine k9 rfl ?_);refine w_2 ?_;(iterate 9 refine k9 rfl ?_);refine w_2 ?_;(iterate 10 refine k9 rfl ?_);refine w_9 ?_;refine hrr ?_
  have he:=j4 (mu:=true) (i:=i) (a:=a) (b:=b) hT hbe bdS;exact f9 rfl rfl (by rw [he];exact ⟨CoC.agg ⟨CoP.refl _,be,trivial⟩,CoC.refl _,trivial⟩)
 have h2:=tz2 r2;(iterate 4 refine qy ?_ (hg:=(gff r2)));refine w_2 ?_;refine ai rfl rfl (fun r3=>?_) (fun r3=>?_)
 ·
  have h3:=tz1 (av r2 r3);(iterate 3 refine k9 (gtf r3) ?_);refine rq rfl rfl rfl rfl rfl ?_ (hp:=r3);refine qy ?_;(iterate 4 refine k9 rfl ?_);refine w_2 ?_;(iterate 5 refine k9 rfl ?_);refine w_2 ?_;(iterate 3 refine k9 rfl ?_);refine w_2 ?_
  (iterate 9 refine k9 rfl ?_);refine w_2 ?_;(iterate 10 refine k9 rfl ?_);refine w_9 ?_;refine hrr ?_
  have he:=j4 (mu:=true) (i:=i) (a:=a) (b:=b) hT hbe bdS;exact f9 rfl rfl (by rw [he];exact ⟨CoC.agg ⟨CoP.refl _,be,trivial⟩,CoC.refl _,trivial⟩)
 have h3:=tz2 (av r2 r3);(iterate 3 refine qy ?_ (hg:=(gff r3)));refine w_2 ?_;refine ai rfl rfl (fun r4=>?_) (fun r4=>?_)
 ·
  have h4:=tz1 (av r3 r4);(iterate 4 refine k9 (gtf r4) ?_);refine rq rfl rfl rfl rfl rfl ?_ (hp:=r4);refine qy ?_;(iterate 5 refine k9 rfl ?_);refine w_2 ?_;(iterate 3 refine k9 rfl ?_);refine w_2 ?_;(iterate 9 refine k9 rfl ?_);refine w_2 ?_
  (iterate 10 refine k9 rfl ?_);refine w_9 ?_;refine hrr ?_
  have he:=j4 (mu:=true) (i:=i) (a:=a) (b:=b) hT hbe bdS;exact f9 rfl rfl (by rw [he];exact ⟨CoC.agg ⟨CoP.refl _,be,trivial⟩,CoC.refl _,trivial⟩)
 have h4:=tz2 (av r3 r4);(iterate 4 refine qy ?_ (hg:=(gff r4)));refine w_2 ?_;refine ai rfl rfl (fun r5=>?_) (fun r5=>?_)
 ·
  have h5:=tz1 (av r4 r5);(iterate 5 refine k9 (gtf r5) ?_);refine rq rfl rfl rfl rfl rfl ?_ (hp:=r5);refine qy ?_;(iterate 3 refine k9 rfl ?_);refine w_2 ?_;(iterate 9 refine k9 rfl ?_);refine w_2 ?_;(iterate 10 refine k9 rfl ?_);refine w_9 ?_
  refine hrr ?_;have he:=j4 (mu:=true) (i:=i) (a:=a) (b:=b) hT hbe bdS;exact f9 rfl rfl (by rw [he];exact ⟨CoC.agg ⟨CoP.refl _,be,trivial⟩,CoC.refl _,trivial⟩)
 have h5:=tz2 (av r4 r5);(iterate 5 refine qy ?_ (hg:=(gff r5)));refine w_2 ?_;refine ai rfl rfl (fun r6=>?_) (fun r6=>?_)
 ·
  have h6:=tz1 (av r5 r6);(iterate 3 refine k9 (gtf r6) ?_);refine rq rfl rfl rfl rfl rfl ?_ (hp:=r6);refine qy ?_;(iterate 9 refine k9 rfl ?_);refine w_2 ?_;(iterate 10 refine k9 rfl ?_);refine w_9 ?_;refine hrr ?_
  have he:=j4 (mu:=true) (i:=i) (a:=a) (b:=b) hT hbe bdS;exact f9 rfl rfl (by rw [he];exact ⟨CoC.agg ⟨CoP.refl _,be,trivial⟩,CoC.refl _,trivial⟩)
 have h6:=tz2 (av r5 r6);(iterate 3 refine qy ?_ (hg:=(gff r6)));refine w_2 ?_;refine ai rfl rfl (fun r7=>?_) (fun r7=>?_)
 ·
  have h7:=tz1 (av r6 r7);(iterate 3 refine k9 (gtf r7) ?_);(iterate 5 refine k9 rfl ?_);refine k9 (gtf r7) ?_;refine rq rfl rfl rfl rfl rfl ?_ (hp:=r7);refine qy ?_;(iterate 10 refine k9 rfl ?_);refine w_9 ?_;refine hrr ?_
  have he:=j4 (mu:=true) (i:=i) (a:=a) (b:=b) hT hbe bdS;exact f9 rfl rfl (by rw [he];exact ⟨CoC.agg ⟨CoP.refl _,be,trivial⟩,CoC.refl _,trivial⟩)
 have h7:=tz2 (av r6 r7);(iterate 3 refine qy ?_ (hg:=(gff r7)));refine w_5 ?_;refine qy ?_ (hg:=(gff r7));refine w_2 ?_;refine ai rfl rfl (fun r8=>?_) (fun r8=>?_)
 ·
  have h8:=tz1 (av r7 r8);(iterate 4 refine k9 (gtf r8) ?_);(iterate 5 refine k9 rfl ?_);refine k9 (gtf r8) ?_;refine rq rfl rfl rfl rfl rfl ?_ (hp:=r8);refine w_8 ?_;refine hrr ?_
  have he:=j4 (mu:=true) (i:=i) (a:=a) (b:=b) hT hbe bdS;exact f9 rfl rfl (by rw [he];exact ⟨CoC.agg ⟨CoP.refl _,be,trivial⟩,CoC.refl _,trivial⟩)
 have h8:=tz2 (av r7 r8);(iterate 4 refine qy ?_ (hg:=(gff r8)));(iterate 5 refine k9 rfl ?_);refine qy ?_ (hg:=(gff r8));refine w_2 ?_;refine aj _ rfl (fun e=>Bool.noConfusion ((a3n r8 rfl).symm.trans e)) (fun _=>?_);refine w_2 ?_
 have hnb:¬ ir l p m true i a b:=by
  unfold ir;rintro (h | h | h | h | h | h | ⟨h,h2⟩ | ⟨h,h2⟩) <;> first | omega | cases h
 have hap:=a4q (mu:=true) (i:=i) (a:=a) (b:=b) hT hbe hnb;have ha:a.toNat < l.length:=by omega
 have hb:b.toNat < l.length:=by omega
 have hra:=hrow _ ha;have hrb:=hrow _ hb;have hi:i.toNat < m.length:=by omega
 refine gy ?_;refine m9 3 ?_;refine b19 ?_;refine qcx a32 (a3s (l.getD a.toNat default) (l.getD b.toNat default) (m.getD i.toNat default).lhs bqx bqx) ?_;refine w_3 ?_;refine hcv (fun h9=>?_) (fun h9=>?_)
 · refine w_6 ?_;refine hrr ?_;have he:=hap.trans (show mvE n l a.toNat b.toNat (m.getD i.toNat default) = (0,[],1) from if_neg (bmx.1 bqy));exact f9 rfl rfl (by rw [he];exact ⟨CoC.agg ⟨CoP.refl _,be,trivial⟩,CoC.refl _,trivial⟩)
 refine en ?_;refine rc rfl rfl rfl rfl rfl rfl (wgx Tryz.func180) (bjc n l (m.getD i.toNat default) a.toNat b.toNat hn0 hn16 hrow bqx ha hb) (⟨CoC.refl _,CoC.refl _,cci bqx,cci bqx,trivial⟩) rfl rfl ?_;refine cq ?_;refine hcd (fun h10=>?_) (fun h10=>?_)
 · refine w_6 ?_;refine hrr ?_;have he:=hap.trans (show mvE n l a.toNat b.toNat (m.getD i.toNat default) = (0,[],3) from (if_pos bqy).trans (if_pos bqx));exact f9 rfl rfl (by rw [he];exact ⟨CoC.agg ⟨CoP.refl _,be,trivial⟩,CoC.refl _,trivial⟩)
 refine w_7 ?_;refine hrr ?_;have he:=hap.trans (show mvE n l a.toNat b.toNat (m.getD i.toNat default) = (n,au (l ++ [dy (l.getD a.toNat default) (l.getD b.toNat default) ((m.getD i.toNat default).lhs ||| (m.getD i.toNat default).rhs)]),0) from (if_pos bqy).trans (if_neg bqx));exact f9 rfl rfl (by rw [he];exact CoL.refl _)
def b08 (n:Int) (l:List Rw) (p m:List Fd) (i a b:Int):a6 brj 131 [pT n l,pP (fdl p),pP (fdl m), .agg [.raw (.bool false), .raw (.int .i64 i), .raw (.int .i64 a), .raw (.int .i64 b)]] (a8 [pT (eq n l p m false i a b).1 (eq n l p m false i a b).2.1,pI (eq n l p m false i a b).2.2]):=by
 refine hpx (nt:=158) Tryz.func131 ?_;refine sx7 ?_;refine m9 0 ?_;refine m9 1 ?_;refine m9 2 ?_;refine w_6 ?_;refine qcx ahg (abc n l) ?_;refine w_2 ?_;refine hcv (fun h0=>?_) (fun h0=>?_)
 · refine w_6 ?_;refine hrr ?_;have he:=al8 (n:=n) (l:=l) (p:=p) (m:=m) (mu:=false) (i:=i) (a:=a) (b:=b) br9;exact f9 rfl rfl (by rw [he];exact ⟨CoC.agg ⟨CoP.refl _,be,trivial⟩,CoC.refl _,trivial⟩)
 have hT:tok n l = true:=by simp_all
 obtain ⟨hn0,hn16,hl256,hrow⟩:=jn hT;refine w_8 ?_;refine qcx a6f (a0h n p m) ?_;refine w_7 ?_;refine hcn (fun h1=>?_) (fun h1=>?_)
 · refine w_7 ?_;refine hrr ?_;have he:=amu (mu:=false) (i:=i) (a:=a) (b:=b) hT bqy;exact f9 rfl rfl (by rw [he];exact ⟨CoC.agg ⟨CoP.refl _,be,trivial⟩,CoC.refl _,trivial⟩)
 have hbe:br n p m = 0:=by assumption
 obtain ⟨_,_,hpl,hpa,hml,_⟩:=l7 hbe;refine n7 ?_;refine ai rfl rfl (fun r2=>?_) (fun r2=>?_)
 ·
  have h2:=tz1 r2;(iterate 4 refine k9 (gtf r2) ?_);refine rq rfl rfl rfl rfl rfl ?_ (hp:=r2);refine qy ?_;(iterate 3 refine k9 rfl ?_);refine w_2 ?_;(iterate 4 refine k9 rfl ?_);refine w_2 ?_;(iterate 5 refine k9 rfl ?_);refine w_2 ?_
  (iterate 3 refine k9 rfl ?_);refine w_2 ?_;(iterate 9 refine k9 rfl ?_);refine w_2 ?_;(iterate 10 refine k9 rfl ?_);refine w_9 ?_;refine hrr ?_
  have he:=j4 (mu:=false) (i:=i) (a:=a) (b:=b) hT hbe bdS;exact f9 rfl rfl (by rw [he];exact ⟨CoC.agg ⟨CoP.refl _,be,trivial⟩,CoC.refl _,trivial⟩)
 have h2:=tz2 r2;(iterate 4 refine qy ?_ (hg:=(gff r2)));refine w_2 ?_;refine ai rfl rfl (fun r3=>?_) (fun r3=>?_)
 ·
  have h3:=tz1 (av r2 r3);(iterate 3 refine k9 (gtf r3) ?_);refine rq rfl rfl rfl rfl rfl ?_ (hp:=r3);refine qy ?_;(iterate 4 refine k9 rfl ?_);refine w_2 ?_;(iterate 5 refine k9 rfl ?_);refine w_2 ?_;(iterate 3 refine k9 rfl ?_);refine w_2 ?_
  (iterate 9 refine k9 rfl ?_);refine w_2 ?_;(iterate 10 refine k9 rfl ?_);refine w_9 ?_;refine hrr ?_
  have he:=j4 (mu:=false) (i:=i) (a:=a) (b:=b) hT hbe bdS;exact f9 rfl rfl (by rw [he];exact ⟨CoC.agg ⟨CoP.refl _,be,trivial⟩,CoC.refl _,trivial⟩)
 have h3:=tz2 (av r2 r3);(iterate 3 refine qy ?_ (hg:=(gff r3)));refine w_2 ?_;refine ai rfl rfl (fun r4=>?_) (fun r4=>?_)
 ·
  have h4:=tz1 (av r3 r4);(iterate 4 refine k9 (gtf r4) ?_);refine rq rfl rfl rfl rfl rfl ?_ (hp:=r4);refine qy ?_;(iterate 5 refine k9 rfl ?_);refine w_2 ?_;(iterate 3 refine k9 rfl ?_);refine w_2 ?_;(iterate 9 refine k9 rfl ?_);refine w_2 ?_
  (iterate 10 refine k9 rfl ?_);refine w_9 ?_;refine hrr ?_
  have he:=j4 (mu:=false) (i:=i) (a:=a) (b:=b) hT hbe bdS;exact f9 rfl rfl (by rw [he];exact ⟨CoC.agg ⟨CoP.refl _,be,trivial⟩,CoC.refl _,trivial⟩)
 have h4:=tz2 (av r3 r4);(iterate 4 refine qy ?_ (hg:=(gff r4)));refine w_2 ?_;refine ai rfl rfl (fun r5=>?_) (fun r5=>?_)
 ·
  have h5:=tz1 (av r4 r5);(iterate 5 refine k9 (gtf r5) ?_);refine rq rfl rfl rfl rfl rfl ?_ (hp:=r5);refine qy ?_;(iterate 3 refine k9 rfl ?_);refine w_2 ?_;(iterate 9 refine k9 rfl ?_);refine w_2 ?_;(iterate 10 refine k9 rfl ?_);refine w_9 ?_
  refine hrr ?_;have he:=j4 (mu:=false) (i:=i) (a:=a) (b:=b) hT hbe bdS;exact f9 rfl rfl (by rw [he];exact ⟨CoC.agg ⟨CoP.refl _,be,trivial⟩,CoC.refl _,trivial⟩)
 have h5:=tz2 (av r4 r5);(iterate 5 refine qy ?_ (hg:=(gff r5)));refine w_2 ?_;refine ai rfl rfl (fun r6=>?_) (fun r6=>?_)
 ·
  have h6:=tz1 (av r5 r6);(iterate 3 refine k9 (gtf r6) ?_);refine rq rfl rfl rfl rfl rfl ?_ (hp:=r6);refine qy ?_;(iterate 9 refine k9 rfl ?_);refine w_2 ?_;(iterate 10 refine k9 rfl ?_);refine w_9 ?_;refine hrr ?_
  have he:=j4 (mu:=false) (i:=i) (a:=a) (b:=b) hT hbe bdS;exact f9 rfl rfl (by rw [he];exact ⟨CoC.agg ⟨CoP.refl _,be,trivial⟩,CoC.refl _,trivial⟩)
 have h6:=tz2 (av r5 r6);(iterate 3 refine qy ?_ (hg:=(gff r6)));refine w_2 ?_;refine ai rfl rfl (fun r7=>?_) (fun r7=>?_)
 ·
  have h7:=tz1 (av r6 r7);(iterate 3 refine k9 (gtf r7) ?_);(iterate 5 refine k9 rfl ?_);refine k9 (gtf r7) ?_;refine rq rfl rfl rfl rfl rfl ?_ (hp:=r7);refine qy ?_;(iterate 10 refine k9 rfl ?_);refine w_9 ?_;refine hrr ?_
  have he:=j4 (mu:=false) (i:=i) (a:=a) (b:=b) hT hbe bdS;exact f9 rfl rfl (by rw [he];exact ⟨CoC.agg ⟨CoP.refl _,be,trivial⟩,CoC.refl _,trivial⟩)
 have h7:=tz2 (av r6 r7);(iterate 3 refine qy ?_ (hg:=(gff r7)));(iterate 5 refine k9 rfl ?_);refine qy ?_ (hg:=(gff r7));refine w_2 ?_;(iterate 4 refine rq rfl rfl rfl rfl (gff (a3n r7 rfl)) ?_);refine w_5 ?_
 refine rq rfl rfl rfl rfl (gff (a3n r7 rfl)) ?_;refine w_2 ?_;refine aj _ rfl (fun r8=>?_) (fun r8=>?_)
 · have h8:=tz1 (av (a3n r7 rfl) r8);refine w_6 ?_;refine hrr ?_;have he:=j4 (mu:=false) (i:=i) (a:=a) (b:=b) hT hbe bdS;exact f9 rfl rfl (by rw [he];exact ⟨CoC.agg ⟨CoP.refl _,be,trivial⟩,CoC.refl _,trivial⟩)
 have h8:=tz2 (av (a3n r7 rfl) r8);refine w_2 ?_
 have hnb:¬ ir l p m false i a b:=by
  unfold ir;rintro (h | h | h | h | h | h | ⟨h,h2⟩ | ⟨h,h2⟩) <;> first | omega | cases h
 have hap:=a4q (mu:=false) (i:=i) (a:=a) (b:=b) hT hbe hnb;have ha:a.toNat < l.length:=by omega
 have hb:b.toNat < l.length:=by omega
 have hra:=hrow _ ha;have hrb:=hrow _ hb;have hi:i.toNat < p.length:=by omega
 have hu:inU n (p.getD i.toNat default) = true:=bnr.1 hpa _ (by rw [bmm,bml hi];exact bnb hi);refine gy ?_;refine m9 3 ?_;refine b19 ?_;refine qcx a32 (a3s (l.getD a.toNat default) (l.getD b.toNat default) (p.getD i.toNat default).lhs bqx bqx) ?_;refine w_3 ?_;refine hcv (fun h9=>?_) (fun h9=>?_)
 · refine w_6 ?_;refine hrr ?_;have he:=hap.trans (show fdE n l a.toNat b.toNat (p.getD i.toNat default) = (0,[],1) from if_neg (bmx.1 bqy));exact f9 rfl rfl (by rw [he];exact ⟨CoC.agg ⟨CoP.refl _,be,trivial⟩,CoC.refl _,trivial⟩)
 refine jd ?_;refine rc rfl rfl rfl rfl rfl rfl (wgx Tryz.func181) (b0x n l (p.getD i.toNat default).rhs a.toNat b.toNat hn0 hn16 hrow bqx ha hb (fun j hj=>a9q hn0 hn16 hu hj)) (⟨CoC.refl _,CoC.refl _,cci bqx,cci bqx,trivial⟩) rfl rfl ?_;refine cq ?_;refine hcd (fun h10=>?_) (fun h10=>?_)
 · refine w_6 ?_;refine hrr ?_;have hx:=bmy (a1p (dz l (eqMs (ci l) a.toNat b.toNat (ak (p.getD i.toNat default).rhs)))) (bpx (mq _ _));exact f9 rfl rfl (by exfalso;omega)
 refine w_7 ?_;refine hrr ?_;have he:=hap.trans (show fdE n l a.toNat b.toNat (p.getD i.toNat default) = (n,au (dz l (eqMs (ci l) a.toNat b.toNat (ak (p.getD i.toNat default).rhs))),0) from if_pos bqy);exact f9 rfl rfl (by rw [he];exact CoL.refl _)
end
section
open Go.Proofs
def ayc (l:List Rw) (hl:∀ i,i < l.length -> (l.getD i default).length <= 17592186044416) (hl2:l.length <= 5864062014805):a6 brj 182 [pR l] (a8 [pR l]) :=
 cb.pure (args:=[pR l]) (l:=[.one (.ref 901 l.length)]) (aoc l hl hl2) rfl ⟨rfl,trivial⟩
def aih (n:Int) (l:List Rw) (p m:List Fd) (s:St) (hck:ckE n l p m = 0) (h:yd l p m s) :
 a6 brj 131 [pT n l,pP (fdl p),pP (fdl m),s.pc] (a8 [pT (dx n l p m s).1 (dx n l p m s).2.1,pI (dx n l p m s).2.2]):=by
 obtain ⟨mu,i,a,b⟩:=s;obtain ⟨ha,hb,h⟩:=h;obtain ⟨hT,hbe,_⟩:=adf hck;have ha:a < l.length:=ha;have hb:b < l.length:=hb
 have hne:¬ a = b:=by
  rintro rfl
  rcases h with ⟨_,_,h⟩ | ⟨_,_,h⟩
  · rw [show fc l (p.getD i default) a a = false from a4s] at h;cases h
  rw [show ff l (m.getD i default) a a = false from a56 ha] at h;cases h
 rcases h with ⟨h1,h2,_⟩ | ⟨h1,h2,_⟩
 · cases h1
   have h2:i < p.length:=h2
   have e:=a4q (mu:=false) (i:=(i:Int)) (a:=(a:Int)) (b:=(b:Int)) hT hbe (by
    unfold ir
    rintro (h | h | h | h | h | h | ⟨h,h3⟩ | ⟨h,h3⟩) <;> first | omega | cases h)
   simp only [bmz] at e;have hh:=b08 n l p m i a b;rw [e] at hh;exact hh
 cases h1;have h2:i < m.length:=h2
 have e:=a4q (mu:=true) (i:=(i:Int)) (a:=(a:Int)) (b:=(b:Int)) hT hbe (by
  unfold ir
  rintro (h | h | h | h | h | h | ⟨h,h3⟩ | ⟨h,h3⟩) <;> first | omega | cases h)
 simp only [bmz] at e;have hh:=b2f n l p m i a b;rw [e] at hh;exact hh
end
section
open Go.Proofs
def b63 (F:Nat) (n:Int) (l:List Rw) (p m:List Fd) (hF:tok n l = true -> muC l.flatten l < F) (hFb:F <= 4000000000):a6 brj 132 [pT n l,pP (fdl p),pP (fdl m)] (a8 [pP (stl (jl F n l p m).1),pT (jl F n l p m).2.1.1 (jl F n l p m).2.1.2,pI (jl F n l p m).2.2]):=by
 refine hpx (nt:=63) Tryz.func132 ?_;refine sx7 ?_;refine m9 0 ?_;refine qy ?_;refine m9 1 ?_;refine w_6 ?_;refine qcx ahg (abc n l) ?_;refine w_2 ?_;refine hcv (fun h0=>?_) (fun h0=>?_)
 · refine w_7 ?_;refine hrr ?_;have hk1:ckE n l p m = 1:=if_neg br9;have he:=abf (F:=F) (n:=n) (l:=l) (p:=p) (m:=m) bqx;exact f9 rfl rfl (by rw [he,hk1];exact ⟨CoC.one (CoP.sl rfl (.inr rfl) (fun _=>rfl) (fun i j hi _=>absurd hi (bmq i))),CoC.agg ⟨CoP.refl _,be,trivial⟩,CoC.refl _,trivial⟩)
 have hT:tok n l = true:=by simp_all
 refine w_8 ?_;refine qcx a6f (a0h n p m) ?_;refine w_7 ?_;refine hcn (fun h1=>?_) (fun h1=>?_)
 · refine w_8 ?_;refine hrr ?_;have hk1:ckE n l p m = br n p m:=if_pos hT;have he:=abf (F:=F) (n:=n) (l:=l) (p:=p) (m:=m) (by rw [hk1];assumption);exact f9 rfl rfl (by rw [he,hk1];exact ⟨CoC.one (CoP.sl rfl (.inr rfl) (fun _=>rfl) (fun i j hi _=>absurd hi (bmq i))),CoC.agg ⟨CoP.refl _,be,trivial⟩,CoC.refl _,trivial⟩)
 have hbe:br n p m = 0:=by assumption
 have hck:ckE n l p m = 0:=(if_pos hT).trans hbe;obtain ⟨hn0,hn16,hpl,hpa,hml,_⟩:=l7 hbe;obtain ⟨_,_,hl256,hrow⟩:=jn hT;have hbig:∀ i,i < l.length -> (l.getD i default).length <= 17592186044416:=fun i hi=>by rw [hrow i hi];omega
 refine w_7 ?_;refine qcx afi (ayc l hbig bqx) ?_;refine qy ?_;refine m9 2 ?_;refine w_7 ?_;refine bw 11 900 true 4 129 (lf St.c []) br2 rfl (CoP.sl rfl (.inr rfl) (fun h=>h) (fun i j hi _=>absurd hi (bmq i))) (.inr rfl) rfl ?_;refine a4d ?_;refine ae (ι:=Nat × List Rw × List St) (ka 1 (ka 2 (ka 7 (ka 10 kn)))) (kb 1 km) (fun x=>⟨[(11,some (.v (.one (.ref 900 x.2.2.length))))],[(2,some (.box [.p (.raw (.int .i64 n)), .p (rl x.2.1)])),(900,some (.arr true 4 129 x.2.2.length (lf St.c x.2.2)))]⟩) (fun x=>StI F n l p m x) (fun x=>x.1) ((F,l,[])) (StI.start hT (hF hT)) kk ?_;rintro x hX;have hXu:=hX.u;have hXb:=hX.b;refine w_6 ?_;refine qcx (wgx Tryz.func183) ((ac1 (p:=p) (m:=m) hX.t ▸ bfc n x.2.1 p m hX.t hpl hml)) ?_;refine w_3 ?_;refine m9 3 ?_;refine w_9 ?_;refine hcv (fun h2=>?_) (fun h2=>?_)
 · have hS:=aqu (by simpa [ac1 hX.t] using h2);refine w_9 ?_;refine al 6 rfl rfl rfl ?_;refine hrr ?_;have he:=(wq hck).trans (hX.fin hS);exact f9 rfl rfl (by rw [he];exact CoL.refl _)
 have hS:=ass (false,0,0,0) (by simpa [ac1 hX.t] using h2);refine w_7 ?_;refine qcx (wgx Tryz.func131) (aih n x.2.1 p m ((ez x.2.1 p m).getD (false,0,0,0)) ((if_pos hX.t).trans hbe) (a8b hS)) ?_;refine w_3 ?_;refine m9 4 ?_;refine w_9 ?_;refine hcn (fun h3=>?_) (fun h3=>?_)
 · refine w_8 ?_;refine hrr ?_;have he:=(wq hck).trans (hX.err hS bqy);exact f9 rfl rfl (by rw [he];exact ⟨CoC.one (CoP.sl rfl (.inr rfl) (fun _=>rfl) (fun i j hi _=>absurd hi (bmq i))),CoC.agg ⟨CoP.refl _,be,trivial⟩,CoC.refl _,trivial⟩)
 have hnx:=hX.next hpa hS bqy
 refine w_4 ?_;refine m9 5 ?_;refine r9 6 true ?_;refine w_5 ?_;refine ⟨(x.1 - 1,(dx n x.2.1 p m ((ez x.2.1 p m).getD (false,0,0,0))).2.1,x.2.2 ++ [((ez x.2.1 p m).getD (false,0,0,0))]), ?_, ?_, ?_⟩
 · exact hnx.2
 · show x.1 - 1 < x.1
   omega
 exact ⟨⟨⟨_,rfl,(bf rfl)⟩,tt⟩,⟨⟨_,rfl,⟨CoP.of_eq (by rw [hnx.1]),CoH.refl _,trivial⟩⟩,⟨_,rfl,(a8q rfl (fun j hj=>by match j,hj with | 0,_=>exact CoP.refl _ | 1,_=>exact CoP.refl _ | 2,_=>exact CoP.refl _ | 3,_=>exact CoP.refl _) rfl)⟩,uu⟩⟩
end
section
def b9v {n:Int} (h0:0 <= n) (h1:n <= 16) {x:Fd}:inU n x = true <-> sub (x.lhs ||| x.rhs) (a7 n):=by
 rw [a5t h0 h1];unfold inU;rw [decide_eq_true_iff]
end
end Go.Hx

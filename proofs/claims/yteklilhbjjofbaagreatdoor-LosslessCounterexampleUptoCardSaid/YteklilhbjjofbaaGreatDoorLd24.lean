/- A part of the proof: X21 X22 X23 Ch19 X24 Ch20 Ch21 X27 Ch23 X28. -/
import Derived.Test.YteklilhbjjofbaaGreatDoorLd23
set_option linter.all false
set_option maxRecDepth 100000
set_option maxHeartbeats 1000000
namespace Go.Hx
section
open Go.Proofs
def an9 (n:Int) (l:List Rw) (s:AS) (a b:Nat) (h0:0 <= n) (h1:n <= 16) (hrow:∀ i,i < l.length -> (l.getD i default).length = n.toNat) (hl2:l.length <= 4294967296) (ha:a < l.length) (hb:b < l.length) (hs:∀ j,j ∈ b7 s -> j < n.toNat):a8 b98 124 [pT n l,pA s,pI (a:Int),pI (b:Int)] (ae [pT n (ai (d4 l (eqMs (bf l) a b (b7 s))))]):=by
 refine hpx (nt:=88) Tryz.func124 ?_;refine sx7 ?_;refine m9 0 ?_;refine m9 1 ?_;refine w_5 ?_;refine fc9 a7r (akl l (fun i hi=>by rw [hrow i hi];omega) b8i) trivial ?_;refine w_8 ?_;refine cj (ka 1 (ka 2 (ka 3 (ka 4 (ka 8 (ka 9 kn)))))) (kb 0 (kb 1 km)) (fun j=>⟨[(10,some (vI j))],[(901,some (.nest 97 3 1 l.length (fun i=>(l.getD i default).length) (mg (eqMs (bf l) a b (f3 s j))) none))]⟩) n.toNat kk ?_;rintro j hj;refine w_2 ?_;have hra:=hrow a ha;have hrb:=hrow b hb;refine w_6 ?_;refine hcd (fun h0=>?_) (fun h0=>?_)
 ·
  refine df ?_;(iterate 2 refine rq rfl rfl rfl rfl rfl ?_ (hp:=(by (try simp only [b5t,nM]);(repeat' apply And.intro) <;> first | trivial | rfl | omega | exact b5d rfl)));refine w_5 ?_;(iterate 2 refine rq rfl rfl rfl rfl rfl ?_ (hp:=(by (try simp only [b5t,nM]);(repeat' apply And.intro) <;> first | trivial | rfl | omega | exact b5d rfl)));refine w_9 ?_
  refine qcx tn (a7k s (j:Int)) ?_;refine w_2 ?_;refine aa rfl rfl (fun r1=>?_) (fun r1=>?_)
  ·
   have h1:=d6 r1;(iterate 3 refine k9 (gtf r1) ?_);refine w_9 ?_
   exact lpx (j + 1) ⟨tt,⟨⟨_,rfl,(by first | (rw [a21 b8i b8j];exact CoO.refl _) | (rw [tx b8i b8j,oe,qk b8j];exact CoO.refl _) | (rw [tx b8i b8j,oe];exact nx (um b8i)))⟩,uu⟩⟩
  have h1:=d5 r1;(iterate 3 refine qy ?_ (hg:=(gff r1)));refine w_2 ?_;refine ag _ rfl (fun r2=>?_) (fun r2=>?_)
  · have h2:=tz1 (ab r1 r2);refine w_6 ?_;exact lpx (j + 1) ⟨tt,⟨⟨_,rfl,(by first | (rw [a21 b8i b8j];exact CoO.refl _) | (rw [tx b8i b8j,oe,qk b8j];exact CoO.refl _) | (rw [tx b8i b8j,oe];exact nx (um b8i)))⟩,uu⟩⟩
  have h2:=tz2 (ab r1 r2);refine w_8 ?_;refine aas (ka 1 (ka 2 (ka 3 (ka 4 (ka 8 (ka 9 (ka 10 kn))))))) (kb 0 (kb 1 km)) ⟨[(13,some (vI (loI ((eqMs (bf l) a b (f3 s j)) a j) ((eqMs (bf l) a b (f3 s j)) b j)))),(14,some (vI (hiI ((eqMs (bf l) a b (f3 s j)) a j) ((eqMs (bf l) a b (f3 s j)) b j))))],[(901,some (.nest 97 3 1 l.length (fun i=>(l.getD i default).length) (mg (eqMs (bf l) a b (f3 s j))) none))]⟩ ?_ ?_
  ·
   refine w_6 ?_;refine hcd (fun h3=>?_) (fun h3=>?_)
   · refine w_6 ?_;exact ⟨⟨⟨_,rfl,(ta (by simp only [b5t];unfold loI;split <;> omega))⟩,⟨_,rfl,(ta (by simp only [b5t];unfold hiI;split <;> omega))⟩,tt⟩,uu⟩
   refine cz ?_;exact ⟨⟨⟨_,rfl,(ta (by simp only [b5t];unfold loI;split <;> omega))⟩,⟨_,rfl,(ta (by simp only [b5t];unfold hiI;split <;> omega))⟩,tt⟩,uu⟩
  refine w_5 ?_;refine cj (ka 1 (ka 2 (ka 3 (ka 4 (ka 8 (ka 9 (ka 10 (ka 13 (ka 14 kn))))))))) (kb 0 (kb 1 km)) (fun i=>⟨[(15,some (vI i))],[(901,some (.nest 97 3 1 l.length (fun i=>(l.getD i default).length) (mg (jj (eqMs (bf l) a b (f3 s j)) (hiI ((eqMs (bf l) a b (f3 s j)) a j) ((eqMs (bf l) a b (f3 s j)) b j)) (loI ((eqMs (bf l) a b (f3 s j)) a j) ((eqMs (bf l) a b (f3 s j)) b j)) i 0)) none))]⟩) l.length ⟨tt,⟨⟨_,rfl,(by rw [a9y];exact CoO.refl _)⟩,trivial⟩⟩ ?_;rintro i hi;refine w_8 ?_;refine hcd (fun h4=>?_) (fun h4=>?_)
  ·
   have hri:=hrow i b8i;refine w_8 ?_;refine cj (ka 1 (ka 2 (ka 3 (ka 4 (ka 8 (ka 9 (ka 10 (ka 13 (ka 14 (ka 15 kn)))))))))) (kb 0 (kb 1 km)) (fun k=>⟨[(16,some (vI k))],[(901,some (.nest 97 3 1 l.length (fun i=>(l.getD i default).length) (mg (jj (eqMs (bf l) a b (f3 s j)) (hiI ((eqMs (bf l) a b (f3 s j)) a j) ((eqMs (bf l) a b (f3 s j)) b j)) (loI ((eqMs (bf l) a b (f3 s j)) a j) ((eqMs (bf l) a b (f3 s j)) b j)) i k)) none))]⟩) n.toNat kk ?_;rintro k hk;refine w_8 ?_;refine hcd (fun h5=>?_) (fun h5=>?_)
   ·
    refine df ?_;(iterate 2 refine rq rfl rfl rfl rfl rfl ?_ (hp:=(by (try simp only [b5t,nM]);(repeat' apply And.intro) <;> first | trivial | rfl | omega | exact b5d rfl)));refine w_3 ?_;refine hcd (fun h6=>?_) (fun h6=>?_)
    · refine w_7 ?_;refine rq rfl rfl rfl rfl rfl ?_ (hp:=(by (try simp only [b5t,nM]);(repeat' apply And.intro) <;> first | trivial | rfl | omega | exact b5d rfl));refine rs rfl rfl rfl rfl rfl ?_ (hp:=(by (try simp only [b5t,nM]);(repeat' apply And.intro) <;> first | trivial | rfl | omega | exact b5d rfl));refine w_6 ?_;exact lpx (k + 1) ⟨tt,⟨⟨_,rfl,(by first | exact a2o (a64 b8j) b8l b8l | (rw [a5f b8j];exact CoO.refl _))⟩,uu⟩⟩
    refine w_6 ?_;exact lpx (k + 1) ⟨tt,⟨⟨_,rfl,(by first | exact a2o (a64 b8j) b8l b8l | (rw [a5f b8j];exact CoO.refl _))⟩,uu⟩⟩
   refine w_6 ?_;exact lpx (i + 1) ⟨tt,⟨⟨_,rfl,(nx (acb b8i))⟩,uu⟩⟩
  refine w_6 ?_;exact lpx (j + 1) ⟨tt,⟨⟨_,rfl,(by first | (rw [a21 b8i b8j];exact CoO.refl _) | (rw [tx b8i b8j,oe,qk b8j];exact CoO.refl _) | (rw [tx b8i b8j,oe];exact nx (um b8i)))⟩,uu⟩⟩
 obtain rfl:j = n.toNat:=by omega
 refine w_2 ?_;have hme:=amo (s:=s) (n:=n.toNat) b8i hs;refine agx 901 rfl ?_;refine bm 9 rfl rfl rfl ?_;refine w_4 ?_;refine rc rfl rfl rfl rfl rfl rfl a7q (a3y n (d4 l (eqMs (bf l) a b (b7 s))) (by rw [j3];omega)) (⟨CoC.refl _,CoC.one (by rw [hme];exact aod rfl),trivial⟩) rfl rfl ?_;refine v_2 ?_;exact CoL.refl _
end
section
open Go.Proofs
def b8x {p:Prop} (h:p:=by first | omega | (simp only [b5t];omega)):p:=h
def b94 {p:Prop} (h:p:=by first | exact qq b8i b8j b8i b8i | exact qw (b5m.1 b8j)):p:=h
def azr (n:Int) (l:List Rw) (x:Fd) (a b:Nat) (h0:0 <= n) (h1:n <= 16) (hrow:∀ i,i < l.length -> (l.getD i default).length = n.toNat) (hl2:l.length <= 4294967296) (ha:a < l.length) (hb:b < l.length):a8 b98 123 [pT n l,x.pc,pI (a:Int),pI (b:Int)] (ae [pT n (ai (l ++ [(d7 (l.getD a default) (l.getD b default) (x.lhs ||| x.rhs))]))]):=by
 refine hpx (nt:=51) Tryz.func123 ?_;refine sx7 ?_;refine m9 0 ?_;refine m9 1 ?_;refine m9 2 ?_;refine w_2 ?_;have hra:=hrow a ha;have hrb:=hrow b hb;refine gy ?_;refine m9 3 ?_;refine w_5 ?_;refine r9 4 true ?_;refine w_8 ?_;refine cj (ka 2 (ka 4 (ka 5 (ka 8 (ka 9 kn))))) (kb 0 (kb 1 (kb 2 km))) (fun j=>⟨[(10,some (vI j))],[(3,some (.arr true 1 3 (0 + (l.getD b default).length) (lf zC (ja (l.getD a default) (l.getD b default) (x.lhs ||| x.rhs) j))))]⟩) n.toNat ⟨tt,⟨⟨_,rfl,(ac6 (fun _ _=>rfl))⟩,trivial⟩⟩ ?_;rintro j hj;refine w_8 ?_;refine hcd (fun h0=>?_) (fun h0=>?_)
 ·
  refine ej ?_;refine rc rfl rfl rfl rfl rfl rfl tn (a7k (x.lhs ||| x.rhs) (j:Int)) (⟨cci (by rw [bOr]),CoC.refl _,trivial⟩) rfl rfl ?_;refine bq ?_;refine hcb (fun h1=>?_) (fun h1=>?_)
  · refine w_9 ?_;(iterate 3 refine rq rfl rfl rfl rfl rfl ?_ (hp:=(by (try simp only [b5t,nM]);(repeat' apply And.intro) <;> first | trivial | rfl | omega | exact b5d rfl)));refine rs rfl rfl rfl rfl rfl ?_ (hp:=(by (try simp only [b5t,nM]);(repeat' apply And.intro) <;> first | trivial | rfl | omega | exact b5d rfl));refine w_6 ?_;exact lpx (j + 1) ⟨tt,⟨⟨_,rfl,b94⟩,uu⟩⟩
  refine w_6 ?_;exact lpx (j + 1) ⟨tt,⟨⟨_,rfl,b94⟩,uu⟩⟩
 obtain rfl:j = n.toNat:=by omega
 refine w_2 ?_;refine bm 9 rfl rfl rfl ?_;refine w_5 ?_;refine fc9 a7r (ac2 l (fun i hi=>by rw [hrow i hi];omega) b8i) trivial ?_;refine qy ?_;refine m9 5 ?_;refine r9 6 true ?_;refine ji rfl rfl rfl rfl rfl rfl a7q (a8.eat (hcs:=[.one (.p (.raw (.int .i64 n))), .one (.ref 901 (l ++ [(d7 (l.getD a default) (l.getD b default) (x.lhs ||| x.rhs))]).length)]) (o1:=[(901, .arr true 1 97 (l ++ [(d7 (l.getD a default) (l.getD b default) (x.lhs ||| x.rhs))]).length (lf rC (l ++ [(d7 (l.getD a default) (l.getD b default) (x.lhs ||| x.rhs))])))]) (a3y n (l ++ [(d7 (l.getD a default) (l.getD b default) (x.lhs ||| x.rhs))]) b8w) rfl (by (repeat' apply And.intro) <;> first | trivial | rfl) (CoL.refl _)) (⟨CoP.refl _,congrArg (HV.ref 901) b8l,trivial⟩) ⟨⟨_,rfl,(kz rfl (ag3 b8x b8x))⟩,trivial⟩ rfl rfl ?_;refine v_3 ?_;exact CoL.refl _
end
section
open Go.Proofs
def b1x (n:Int) (l:List Rw) (p m:List Fd) (i a b:Nat) (h0:0 <= n) (h1:n <= 16) (hrow:∀ i,i < l.length -> (l.getD i default).length = n.toNat) (ha:a < l.length) (hb:b < l.length) (hi:i < p.length):a8 b98 165 [pT n l,pP (fdl p),pP (fdl m), .agg [.raw (.bool false), .raw (.int .i64 (i:Int)), .raw (.int .i64 (a:Int)), .raw (.int .i64 (b:Int))]] (ae [pB (dm l (p.getD i default) a b)]):=by
 refine hpx (nt:=85) Tryz.func165 ?_;refine sx7 ?_;refine m9 0 ?_;refine m9 1 ?_;refine w_3 ?_;have hra:=hrow a ha;have hrb:=hrow b hb;refine aip ?_;refine w_3 ?_;refine qcx xr (xz (l.getD a default) (l.getD b default) (p.getD i default).lhs b8i b8i) ?_;refine qy ?_;refine aa rfl rfl (fun r0=>?_) (fun r0=>?_)
 ·
  have h0:=r0;(iterate 8 refine qy ?_ (hg:=(gtt r0)));refine qcx xr (xz (l.getD a default) (l.getD b default) (p.getD i default).rhs b8i b8i) ?_ (hg:=(gtt r0));refine qy ?_ (hg:=(gtt r0));refine w_3 ?_
  exact hx8 rfl rfl rfl (⟨ccb (by first | exact (yy b8j).symm | simp_all [dm]),trivial⟩)
 have h0:=r0;(iterate 10 refine k9 (gft r0) ?_);refine w_3 ?_
 exact hx8 rfl rfl rfl (⟨ccb (by first | exact (yy b8j).symm | simp_all [dm]),trivial⟩)
def b1n (n:Int) (l:List Rw) (p m:List Fd) (i a b:Nat) (h0:0 <= n) (h1:n <= 16) (hrow:∀ i,i < l.length -> (l.getD i default).length = n.toNat) (ha:a < l.length) (hb:b < l.length) (hi:i < m.length):a8 b98 165 [pT n l,pP (fdl p),pP (fdl m), .agg [.raw (.bool true), .raw (.int .i64 (i:Int)), .raw (.int .i64 (a:Int)), .raw (.int .i64 (b:Int))]] (ae [pB (a2p l (m.getD i default) a b)]):=by
 refine hpx (nt:=85) Tryz.func165 ?_;refine sx7 ?_;refine m9 0 ?_;refine m9 1 ?_;refine w_3 ?_;have hra:=hrow a ha;have hrb:=hrow b hb;refine aip ?_;refine qy ?_;refine m9 2 ?_;refine w_9 ?_;refine qcx xr (xz (l.getD a default) (l.getD b default) (m.getD i default).lhs b8i b8i) ?_;refine w_2 ?_;refine hcv (fun h0=>?_) (fun h0=>?_)
 · refine v_4 ?_;exact ⟨ccb (by unfold a2p;simp_all),trivial⟩
 refine w_3 ?_;refine m9 3 ?_;refine qy ?_;refine r9 4 true ?_;refine w_8 ?_;refine cj (ka 4 (ka 9 (ka 11 (ka 12 kn)))) (kb 0 (kb 2 km)) (fun j=>⟨[(13,some (vI j))],[(3,some (.arr true 1 3 (0 + (l.getD b default).length) (lf zC (ja (l.getD a default) (l.getD b default) (m.getD i default).rhs j))))]⟩) n.toNat ⟨tt,⟨⟨_,rfl,(ac6 (fun _ _=>rfl))⟩,trivial⟩⟩ ?_;rintro j hj;refine w_8 ?_;refine hcd (fun h1=>?_) (fun h1=>?_)
 ·
  refine w_8 ?_;refine qcx tn (a7k (m.getD i default).rhs (j:Int)) ?_;refine bq ?_;refine hcb (fun h2=>?_) (fun h2=>?_)
  · refine w_5 ?_;(iterate 3 refine rq rfl rfl rfl rfl rfl ?_ (hp:=(by (try simp only [b5t,nM]);(repeat' apply And.intro) <;> first | trivial | rfl | omega | exact b5d rfl)));refine rs rfl rfl rfl rfl rfl ?_ (hp:=(by (try simp only [b5t,nM]);(repeat' apply And.intro) <;> first | trivial | rfl | omega | exact b5d rfl));refine w_6 ?_;exact lpx (j + 1) ⟨tt,⟨⟨_,rfl,b94⟩,uu⟩⟩
  refine w_6 ?_;exact lpx (j + 1) ⟨tt,⟨⟨_,rfl,b94⟩,uu⟩⟩
 obtain rfl:j = n.toNat:=by omega
 refine w_2 ?_;refine bm 12 rfl rfl rfl ?_;refine w_3 ?_;refine rc rfl rfl rfl rfl rfl rfl ac7 (aeo n l (d7 (l.getD a default) (l.getD b default) (m.getD i default).rhs)) (⟨CoC.refl _,ag3 b8x b8x,trivial⟩) rfl rfl ?_;refine v_3 ?_;exact ⟨ccb (by unfold a2p;simp_all),trivial⟩
end
section
open Go.Proofs
def muK (p:List Fd) (k:Nat):Bool:=decide (p.length <= k)
def ixK (p:List Fd) (k:Nat):Nat:=if p.length <= k then k - p.length else k
def chE (l:List Rw) (p m:List Fd) (s:St):Bool:=if s.1 = true then a2p l (m.getD s.2.1 default) s.2.2.1 s.2.2.2 else dm l (p.getD s.2.1 default) s.2.2.1 s.2.2.2
def cCh (n:Int) (l:List Rw) (p m:List Fd) (k a b:Nat) (hT:tok n l = true) (ha:a < l.length) (hb:b < l.length) (hk:k < p.length + m.length) :
 a8 b98 165 [pT n l,pP (fdl p),pP (fdl m),St.pc (muK p k,ixK p k,a,b)] (ae [pB (chE l p m (muK p k,ixK p k,a,b))]):=by
 obtain ⟨h0,h1,h2,h3⟩:=eu hT;by_cases h:p.length <= k
 · have e1:muK p k = true:=decide_eq_true h
   have e2:ixK p k = k - p.length:=if_pos h;rw [e1,e2];exact b1n n l p m (k - p.length) a b h0 h1 h3 ha hb b8i
 have e1:muK p k = false:=decide_eq_false h;have e2:ixK p k = k:=if_neg h;rw [e1,e2];exact b1x n l p m k a b h0 h1 h3 ha hb b8i
def gl (l:List Rw) (p m:List Fd) (k a b:Nat):Bool:=decide (a ≠ b) && chE l p m (muK p k,ixK p k,a,b)
def vu (l:List Rw) (p m:List Fd):Option St:=(eg (gl l p m) (p.length + m.length) l.length).map fun x=>(muK p x.1,ixK p x.1,x.2.1,x.2.2)
section
variable {l:List Rw} {p m:List Fd} {k a b:Nat}
def arm (h:¬ a = b) (h2:chE l p m (muK p k,ixK p k,a,b) = true):gl l p m k a b = true:=by unfold gl;rw [decide_eq_true h,h2];rfl
def abb (h:a = b):gl l p m k a b = false:=by unfold gl;rw [decide_eq_false (fun e=>e h)];rfl
def ach (h2:chE l p m (muK p k,ixK p k,a,b) = false):gl l p m k a b = false:=by unfold gl;rw [h2,Bool.and_false]
def atr (h:eg (gl l p m) (p.length + m.length) l.length = some (k,a,b)):vu l p m = some (muK p k,ixK p k,a,b):=by unfold vu;rw [h];rfl
def ato (h:eg (gl l p m) (p.length + m.length) l.length = none):vu l p m = none:=by unfold vu;rw [h];rfl
end
end
section
open Go.Proofs
def aw1 (n:Int) (l:List Rw) (p m:List Fd) (hT:tok n l = true) (hp:p.length <= 64) (hm:m.length <= 64):a8 b98 134 [pT n l,pP (fdl p),pP (fdl m)] (ae [St.pc ((vu l p m).getD (false,0,0,0)),pB (vu l p m).isSome]):=by
 refine hpx (nt:=66) Tryz.func134 ?_;refine cu ?_;obtain ⟨hn0,hn16,hl256,hrow⟩:=eu hT;refine bv 1 rfl fun hn1=>?_;refine bv 2 rfl fun hn2=>?_;refine gy ?_;refine m9 0 ?_;refine m9 1 ?_;refine w_8 ?_;refine af (ι:=Nat) (ka 1 (ka 2 (ka 3 (ka 6 kn)))) (kb 0 (kb 1 km)) (fun k=>⟨[(8,some (vI k))],[]⟩) (fun k=>k <= p.length + m.length /\ ∀ i',i' < k -> ∀ a',a' < l.length -> ∀ b',b' < l.length -> gl l p m i' a' b' = false) (fun k=>p.length + m.length - k) (0) (⟨b5h _,ar⟩) kk ?_;rintro k ⟨hk,hK⟩;refine ej ?_;refine hcd (fun h0=>?_) (fun h0=>?_)
 ·
  refine w_7 ?_;refine m9 2 ?_;refine w_2 ?_;refine aas (ka 1 (ka 2 (ka 3 (ka 6 (ka 8 (ka 9 kn)))))) (kb 0 (kb 1 km)) ⟨[],[(2,some (.box [.p (.raw (.bool (muK p k))), .p (.raw (.int .i64 (ixK p k:Int))), .p (.raw (.int .i64 0)), .p (.raw (.int .i64 0))]))]⟩ ?_ ?_
  ·
   refine w_7 ?_;refine hcd (fun h1=>?_) (fun h1=>?_)
   · refine w_8 ?_;exact ⟨tt,⟨⟨_,rfl,(by unfold muK ixK;first | (rw [decide_eq_true b8i,if_pos b8i];refine ⟨CoP.refl _,CoP.of_eq (by congr 2;omega),CoP.refl _,CoP.refl _,trivial⟩) | (rw [decide_eq_false b8i,if_neg b8i];exact ⟨CoP.refl _,CoP.refl _,CoP.refl _,CoP.refl _,trivial⟩))⟩,uu⟩⟩
   refine cz ?_;exact ⟨tt,⟨⟨_,rfl,(by unfold muK ixK;first | (rw [decide_eq_true b8i,if_pos b8i];refine ⟨CoP.refl _,CoP.of_eq (by congr 2;omega),CoP.refl _,CoP.refl _,trivial⟩) | (rw [decide_eq_false b8i,if_neg b8i];exact ⟨CoP.refl _,CoP.refl _,CoP.refl _,CoP.refl _,trivial⟩))⟩,uu⟩⟩
  refine w_6 ?_;refine af (ι:=Nat × Nat) (ka 1 (ka 2 (ka 3 (ka 6 (ka 8 (ka 9 kn)))))) (kb 0 (kb 1 km)) (fun y=>⟨[],[(2,some (.box [.p (.raw (.bool (muK p k))), .p (.raw (.int .i64 (ixK p k:Int))), .p (.raw (.int .i64 (y.1:Int))), .p (.raw (.int .i64 (y.2:Int)))]))]⟩) (fun y=>y.1 <= l.length /\ ∀ a',a' < y.1 -> ∀ b',b' < l.length -> gl l p m k a' b' = false) (fun y=>l.length - y.1) ((0,0)) (⟨b5h _,ar⟩) kk ?_;rintro y ⟨hy,hA⟩;refine df ?_;refine hcd (fun h2=>?_) (fun h2=>?_)
  ·
   refine w_9 ?_;refine af (ι:=Nat) (ka 1 (ka 2 (ka 3 (ka 6 (ka 8 (ka 9 kn)))))) (kb 0 (kb 1 km)) (fun b=>⟨[],[(2,some (.box [.p (.raw (.bool (muK p k))), .p (.raw (.int .i64 (ixK p k:Int))), .p (.raw (.int .i64 (y.1:Int))), .p (.raw (.int .i64 (b:Int)))]))]⟩) (fun b=>b <= l.length /\ ∀ b',b' < b -> gl l p m k y.1 b' = false) (fun b=>l.length - b) (0) (⟨b5h _,ar⟩) kk ?_;rintro b ⟨hb,hB⟩;refine df ?_;refine hcd (fun h3=>?_) (fun h3=>?_)
   ·
    refine ej ?_;refine aa rfl rfl (fun r4=>?_) (fun r4=>?_)
    ·
     have h4:=tz2 (d6 r4);(iterate 4 refine qy ?_ (hg:=(gtt r4)));refine qcx (wgx Tryz.func165) (cCh n l p m k y.1 b hT b8i b8i b8i) ?_ (hg:=(gtt r4));refine w_2 ?_;refine ag _ rfl (fun r5=>?_) (fun r5=>?_)
     · have h5:=bd r4 r5;refine w_6 ?_;refine hrr ?_;have he:=atr (x7 (P:=gl l p m) (i:=k) (a:=y.1) (b:=b) b8i b8i b8i (arm b8i b8j) hK hA hB);exact f9 rfl rfl (by rw [he];exact CoL.refl _)
     have h5:=bd r4 r5;refine w_8 ?_;refine lpz (b + 1) kk ?_;exact ⟨by show b + 1 <= _;omega,aj hB (by first | exact abb b8i | exact ach b8j)⟩
    have h4:=tz1 (d5 r4);(iterate 5 refine k9 (gft r4) ?_);refine ej ?_;refine lpz (b + 1) kk ?_
    exact ⟨by show b + 1 <= _;omega,aj hB (by first | exact abb b8i | exact ach b8j)⟩
   refine w_8 ?_;refine lpz (y.1 + 1,b) kk ?_;exact ⟨by show y.1 + 1 <= _;omega,aj hA (fun b' hb'=>hB b' b8i)⟩
  refine w_6 ?_;refine lpz (k + 1) kk ?_;exact ⟨by show k + 1 <= _;omega,aj hK (fun a' ha'=>hA a' b8i)⟩
 refine w_7 ?_;refine hrr ?_;have he:=ato (x6 (P:=gl l p m) (I:=p.length + m.length) (L:=l.length) fun j hj=>hK j b8i);exact f9 rfl rfl (by rw [he];exact CoL.refl _)
end
section
def vc {α:Type} {f g:Nat -> Option α}:∀ {ks:List Nat},(∀ k,k ∈ ks -> f k = g k) -> ks.findSome? f = ks.findSome? g
 | [],_=>rfl
 | k :: ks,h=>by
  have h1:=h k b8l;have h2:=vc (ks:=ks) fun j hj=>h j (by simp [hj]);simp only [List.findSome?_cons,h1,h2]
def a4o {p q:Nat -> Bool}:∀ {ks:List Nat},(∀ k,k ∈ ks -> p k = q k) -> ks.find? p = ks.find? q
 | [],_=>rfl
 | k :: ks,h=>by
  have h1:=h k b8l;have h2:=a4o (ks:=ks) fun j hj=>h j (by simp [hj]);simp only [List.find?_cons,h1,h2]
def atk {s t:AS} {i:Nat}:bi (s ||| t) (i:Int) = (bi s (i:Int) || bi t (i:Int)):=by
 by_cases h:i < 32
 · rw [ef h,ef h,ef h,b7g]
 rw [uz b8i,uz b8i,uz b8i];rfl
def aus {a b:Rw} {s t:AS} (hl:a.length = b.length) (h:ip a b s = true):d7 a b t = d7 a b (s ||| t):=by
 have h:=of_decide_eq_true h;unfold d7;refine b76 fun i hi=>?_;have hi:=b5r.1 hi;rw [atk];by_cases h1:bi s (i:Int) = true
 · have:=h i b8i h1
   rw [h1,Bool.true_or,if_pos rfl];split
   · rfl
   exact this.symm
 rw [b5m.2 h1,b86]
def aol (a:Rw) (s:AS):d7 a a s = a:=by
 refine jw (jb a a s) fun j hj=>?_;rw [jb] at hj;unfold d7;rw [b5c,b5s,b6d hj];show (if bi s (j:Int) = true then a.getD j default else a.getD j default) = _;split <;> rfl
section
variable {a:Nat} {l:List Rw}
def za {x:Fd}:dm l x a a = false:=a52 (xh fun _ _ _=>rfl)
def zi {x:Fd} (ha:a < l.length):dt l x a a = false:=by
 refine a4v ?_;rw [aol,b6c];exact ⟨_,y9 ha,decide_eq_true rfl⟩
def aoq {n:Int} {x:Fd} {b:Nat} (hT:tok n l = true) (ha:a < l.length) (hb:b < l.length):a2p l x a b = dt l x a b:=by
 obtain ⟨_,_,_,h3⟩:=eu hT;unfold a2p dt;by_cases h:ip (l.getD a default) (l.getD b default) x.lhs = true
 · rw [aus (by rw [h3 a ha,h3 b hb]) h]
 rw [b5m.2 h];rfl
def asj {p m:List Fd} {k b:Nat} (hk:k < p.length):gl l p m k a b = dm l (p.getD k default) a b:=by
 have e1:muK p k = false:=decide_eq_false b8i;have e2:ixK p k = k:=if_neg b8i;unfold gl;rw [e1,e2];by_cases h:a = b
 · subst h;rw [za,decide_eq_false (fun e=>e rfl)];rfl
 rw [decide_eq_true h];rfl
def as8 {n:Int} {p m:List Fd} {k b:Nat} (hT:tok n l = true) (ha:a < l.length) (hb:b < l.length):gl l p m (p.length + k) a b = dt l (m.getD k default) a b:=by
 have e1:muK p (p.length + k) = true:=decide_eq_true b8i;have e2:ixK p (p.length + k) = k:=(if_pos b8i).trans b8i;unfold gl;rw [e1,e2];by_cases h:a = b
 · subst h;rw [zi ha,decide_eq_false (fun e=>e rfl)];rfl
 rw [decide_eq_true h,<- aoq hT ha hb];rfl
def a4z {n:Int} {p m:List Fd} (hT:tok n l = true):vu l p m = dc l p m:=by
 have e1:(List.range p.length).findSome? (fun i=>(List.range l.length).findSome? fun a=>((List.range l.length).find? fun b=>gl l p m i a b).map fun b=>(i,a,b)) = eg (fun i a b=>dm l (p.getD i default) a b) p.length l.length :=
  vc fun i hi=>vc fun a _=>by rw [a4o fun b _=>asj (b5r.1 hi)]
 have e2:(List.range m.length).findSome? (fun i=>(List.range l.length).findSome? fun a=>((List.range l.length).find? fun b=>gl l p m (p.length + i) a b).map fun b=>(p.length + i,a,b)) = (eg (fun i a b=>dt l (m.getD i default) a b) m.length l.length).map fun x=>(p.length + x.1,x.2):=by
  unfold eg;rw [List.map_findSome?];refine vc fun i _=>?_;show _ = Option.map _ ((List.range l.length).findSome? _);rw [List.map_findSome?];refine vc fun a ha=>?_;rw [a4o fun b hb=>as8 hT (b5r.1 ha) (b5r.1 hb)];show _ = Option.map _ (Option.map _ _);rw [Option.map_map];rfl
 have e:eg (gl l p m) (p.length + m.length) l.length = (eg (fun i a b=>dm l (p.getD i default) a b) p.length l.length).or ((eg (fun i a b=>dt l (m.getD i default) a b) m.length l.length).map fun x=>(p.length + x.1,x.2)):=by
  rw [<- e1,<- e2];unfold eg;rw [List.range_add,List.findSome?_append,List.findSome?_map];rfl
 unfold vu dc;rw [e]
 cases h:eg (fun i a b=>dm l (p.getD i default) a b) p.length l.length with
 | some x =>
  obtain ⟨i,a,b⟩:=x;have hi:=(yp h).1;show some (muK p i,ixK p i,a,b) = some (false,i,a,b);rw [show muK p i = false from decide_eq_false b8i,show ixK p i = i from if_neg b8i]
 | none =>
  rw [Option.none_or]
  cases eg (fun i a b=>dt l (m.getD i default) a b) m.length l.length with
  | none=>rfl
  | some x =>
   obtain ⟨i,a,b⟩:=x;show some (muK p (p.length + i),ixK p (p.length + i),a,b) = some (true,i,a,b);rw [show muK p (p.length + i) = true from decide_eq_true b8i,show ixK p (p.length + i) = i from (if_pos b8i).trans b8i]
end
end
section
def fh (l:List Rw) (p m:List Fd) (mu:Bool) (i a b:Int):Prop:=a < 0 \/ (l.length:Int) <= a \/ b < 0 \/ (l.length:Int) <= b \/ a = b \/ i < 0 \/ (mu = true /\ (m.length:Int) <= i) \/ (mu = false /\ (p.length:Int) <= i)
instance (l:List Rw) (p m:List Fd) (mu:Bool) (i a b:Int):Decidable (fh l p m mu i a b):=by unfold fh;infer_instance
def bdS {l:List Rw} {p m:List Fd} {mu:Bool} {i a b:Int} (h:fh l p m mu i a b:=by unfold fh;first | exact .inl b8i | exact .inr (.inl b8i) | exact .inr (.inr (.inl b8i)) | exact .inr (.inr (.inr (.inl b8i))) | exact .inr (.inr (.inr (.inr (.inl b8i)))) | exact .inr (.inr (.inr (.inr (.inr (.inl b8i))))) | exact .inr (.inr (.inr (.inr (.inr (.inr (.inl ⟨by first | rfl | assumption | simp_all,by omega⟩)))))) | exact .inr (.inr (.inr (.inr (.inr (.inr (.inr ⟨by first | rfl | assumption | simp_all,by omega⟩))))))):fh l p m mu i a b:=h
def da (n:Int) (l:List Rw) (p m:List Fd) (mu:Bool) (i a b:Int):Int × List Rw × Int :=
 if ckE n l p m = 0 then if fh l p m mu i a b then (0,[],1) else ci n l p m (mu,i.toNat,a.toNat,b.toNat) else (0,[],ckE n l p m)
section
variable {n:Int} {l:List Rw} {p m:List Fd} {mu:Bool} {i a b:Int}
def ace (h:tok n l = false):da n l p m mu i a b = (0,[],1):=by
 have e:ckE n l p m = 1:=if_neg (by rw [h];decide);unfold da;rw [e];rfl
def ae1 (h:tok n l = true) (h2:¬ bw n p m = 0):da n l p m mu i a b = (0,[],bw n p m):=by
 have e:ckE n l p m = bw n p m:=if_pos h;unfold da;rw [e,if_neg h2]
def fy (h:tok n l = true) (h2:bw n p m = 0) (h3:fh l p m mu i a b):da n l p m mu i a b = (0,[],1):=by
 have e:ckE n l p m = bw n p m:=if_pos h;unfold da;rw [e,if_pos h2,if_pos h3]
def yo (h:tok n l = true) (h2:bw n p m = 0) (h3:¬ fh l p m mu i a b):da n l p m mu i a b = ci n l p m (mu,i.toNat,a.toNat,b.toNat):=by
 have e:ckE n l p m = bw n p m:=if_pos h;unfold da;rw [e,if_pos h2,if_neg h3]
end
end
section
open Go.Proofs
def aov (n:Int) (l:List Rw) (p m:List Fd) (i a b:Int):a8 b98 85 [pT n l,pP (fdl p),pP (fdl m), .agg [.raw (.bool true), .raw (.int .i64 i), .raw (.int .i64 a), .raw (.int .i64 b)]] (ae [pT (da n l p m true i a b).1 (da n l p m true i a b).2.1,pI (da n l p m true i a b).2.2]):=by
 refine hpx (nt:=158) Tryz.func85 ?_;refine sx7 ?_;refine m9 0 ?_;refine m9 1 ?_;refine m9 2 ?_;refine w_6 ?_;refine qcx a79 (a3l n l) ?_;refine w_2 ?_;refine hcv (fun h0=>?_) (fun h0=>?_)
 · refine w_6 ?_;refine hrr ?_;have he:=ace (n:=n) (l:=l) (p:=p) (m:=m) (mu:=true) (i:=i) (a:=a) (b:=b) b8p;exact f9 rfl rfl (by rw [he];exact ⟨CoC.agg ⟨CoP.refl _,aw,trivial⟩,CoC.refl _,trivial⟩)
 have hT:tok n l = true:=by simp_all
 obtain ⟨hn0,hn16,hl256,hrow⟩:=eu hT;refine w_8 ?_;refine qcx a69 (zj n p m) ?_;refine w_7 ?_;refine hcn (fun h1=>?_) (fun h1=>?_)
 · refine w_7 ?_;refine hrr ?_;have he:=ae1 (mu:=true) (i:=i) (a:=a) (b:=b) hT b8j;exact f9 rfl rfl (by rw [he];exact ⟨CoC.agg ⟨CoP.refl _,aw,trivial⟩,CoC.refl _,trivial⟩)
 have hbe:bw n p m = 0:=by assumption
 obtain ⟨_,_,hpl,hpa,hml,_⟩:=oj hbe;refine pl ?_;refine aa rfl rfl (fun r2=>?_) (fun r2=>?_)
 ·
  have h2:=tz1 r2;(iterate 4 refine k9 (gtf r2) ?_);refine w_2 ?_;(iterate 3 refine k9 rfl ?_);refine w_2 ?_;(iterate 4 refine k9 rfl ?_);refine w_2 ?_;(iterate 5 refine k9 rfl ?_);refine w_2 ?_;(iterate 3 refine k9 rfl ?_);refine w_2 ?_
  (iterate 9 refine k9 rfl ?_);refine w_2 ?_;(iterate 10 refine k9 rfl ?_);refine w_9 ?_;refine hrr ?_
  have he:=fy (mu:=true) (i:=i) (a:=a) (b:=b) hT hbe bdS;exact f9 rfl rfl (by rw [he];exact ⟨CoC.agg ⟨CoP.refl _,aw,trivial⟩,CoC.refl _,trivial⟩)
 have h2:=tz2 r2;(iterate 4 refine qy ?_ (hg:=(gff r2)));refine w_2 ?_;refine aa rfl rfl (fun r3=>?_) (fun r3=>?_)
 ·
  have h3:=tz1 (ab r2 r3);(iterate 3 refine k9 (gtf r3) ?_);refine w_2 ?_;(iterate 4 refine k9 rfl ?_);refine w_2 ?_;(iterate 5 refine k9 rfl ?_);refine w_2 ?_;(iterate 3 refine k9 rfl ?_);refine w_2 ?_;(iterate 9 refine k9 rfl ?_);refine w_2 ?_
  (iterate 10 refine k9 rfl ?_);refine w_9 ?_;refine hrr ?_
  have he:=fy (mu:=true) (i:=i) (a:=a) (b:=b) hT hbe bdS;exact f9 rfl rfl (by rw [he];exact ⟨CoC.agg ⟨CoP.refl _,aw,trivial⟩,CoC.refl _,trivial⟩)
 have h3:=tz2 (ab r2 r3);(iterate 3 refine qy ?_ (hg:=(gff r3)));refine w_2 ?_;refine aa rfl rfl (fun r4=>?_) (fun r4=>?_)
 ·
  have h4:=tz1 (ab r3 r4);(iterate 4 refine k9 (gtf r4) ?_);refine w_2 ?_;(iterate 5 refine k9 rfl ?_);refine w_2 ?_;(iterate 3 refine k9 rfl ?_);refine w_2 ?_;(iterate 9 refine k9 rfl ?_);refine w_2 ?_;(iterate 10 refine k9 rfl ?_)
  refine w_9 ?_;refine hrr ?_;have he:=fy (mu:=true) (i:=i) (a:=a) (b:=b) hT hbe bdS;exact f9 rfl rfl (by rw [he];exact ⟨CoC.agg ⟨CoP.refl _,aw,trivial⟩,CoC.refl _,trivial⟩)
 have h4:=tz2 (ab r3 r4);(iterate 4 refine qy ?_ (hg:=(gff r4)));refine w_2 ?_;refine aa rfl rfl (fun r5=>?_) (fun r5=>?_)
 ·
  have h5:=tz1 (ab r4 r5);(iterate 5 refine k9 (gtf r5) ?_);refine w_2 ?_;(iterate 3 refine k9 rfl ?_);refine w_2 ?_;(iterate 9 refine k9 rfl ?_);refine w_2 ?_;(iterate 10 refine k9 rfl ?_);refine w_9 ?_;refine hrr ?_
  have he:=fy (mu:=true) (i:=i) (a:=a) (b:=b) hT hbe bdS;exact f9 rfl rfl (by rw [he];exact ⟨CoC.agg ⟨CoP.refl _,aw,trivial⟩,CoC.refl _,trivial⟩)
 have h5:=tz2 (ab r4 r5);(iterate 5 refine qy ?_ (hg:=(gff r5)));refine w_2 ?_;refine aa rfl rfl (fun r6=>?_) (fun r6=>?_)
 ·
  have h6:=tz1 (ab r5 r6);(iterate 3 refine k9 (gtf r6) ?_);refine w_2 ?_;(iterate 9 refine k9 rfl ?_);refine w_2 ?_;(iterate 10 refine k9 rfl ?_);refine w_9 ?_;refine hrr ?_
  have he:=fy (mu:=true) (i:=i) (a:=a) (b:=b) hT hbe bdS;exact f9 rfl rfl (by rw [he];exact ⟨CoC.agg ⟨CoP.refl _,aw,trivial⟩,CoC.refl _,trivial⟩)
 have h6:=tz2 (ab r5 r6);(iterate 3 refine qy ?_ (hg:=(gff r6)));refine w_2 ?_;refine aa rfl rfl (fun r7=>?_) (fun r7=>?_)
 ·
  have h7:=tz1 (ab r6 r7);(iterate 3 refine k9 (gtf r7) ?_);(iterate 5 refine k9 rfl ?_);refine k9 (gtf r7) ?_;refine w_2 ?_;(iterate 10 refine k9 rfl ?_);refine w_9 ?_;refine hrr ?_
  have he:=fy (mu:=true) (i:=i) (a:=a) (b:=b) hT hbe bdS;exact f9 rfl rfl (by rw [he];exact ⟨CoC.agg ⟨CoP.refl _,aw,trivial⟩,CoC.refl _,trivial⟩)
 have h7:=tz2 (ab r6 r7);(iterate 3 refine qy ?_ (hg:=(gff r7)));refine w_5 ?_;refine qy ?_ (hg:=(gff r7));refine w_2 ?_;refine aa rfl rfl (fun r8=>?_) (fun r8=>?_)
 ·
  have h8:=tz1 (ab r7 r8);(iterate 4 refine k9 (gtf r8) ?_);(iterate 5 refine k9 rfl ?_);refine k9 (gtf r8) ?_;refine w_9 ?_;refine hrr ?_
  have he:=fy (mu:=true) (i:=i) (a:=a) (b:=b) hT hbe bdS;exact f9 rfl rfl (by rw [he];exact ⟨CoC.agg ⟨CoP.refl _,aw,trivial⟩,CoC.refl _,trivial⟩)
 have h8:=tz2 (ab r7 r8);(iterate 4 refine qy ?_ (hg:=(gff r8)));(iterate 5 refine k9 rfl ?_);refine qy ?_ (hg:=(gff r8));refine w_2 ?_;refine ag _ rfl (fun e=>Bool.noConfusion ((mz r8 rfl).symm.trans e)) (fun _=>?_);refine w_2 ?_
 have hnb:¬ fh l p m true i a b:=by
  unfold fh;rintro (h | h | h | h | h | h | ⟨h,h2⟩ | ⟨h,h2⟩) <;> first | omega | cases h
 have hap:=yo (mu:=true) (i:=i) (a:=a) (b:=b) hT hbe hnb;have ha:a.toNat < l.length:=by omega
 have hb:b.toNat < l.length:=by omega
 have hra:=hrow _ ha;have hrb:=hrow _ hb;have hi:i.toNat < m.length:=by omega
 refine gy ?_;refine m9 3 ?_;refine ang ?_;refine qcx xr (xz (l.getD a.toNat default) (l.getD b.toNat default) (m.getD i.toNat default).lhs b8i b8i) ?_;refine w_3 ?_;refine hcv (fun h9=>?_) (fun h9=>?_)
 · refine w_6 ?_;refine hrr ?_;have he:=hap.trans (show mvE n l a.toNat b.toNat (m.getD i.toNat default) = (0,[],1) from if_neg (b5m.1 b8j));exact f9 rfl rfl (by rw [he];exact ⟨CoC.agg ⟨CoP.refl _,aw,trivial⟩,CoC.refl _,trivial⟩)
 refine o4 ?_;refine rc rfl rfl rfl rfl rfl rfl (wgx Tryz.func123) (azr n l (m.getD i.toNat default) a.toNat b.toNat hn0 hn16 hrow b8i ha hb) (⟨CoC.refl _,CoC.refl _,cci b8i,cci b8i,trivial⟩) rfl rfl ?_;refine ej ?_;refine hcd (fun h10=>?_) (fun h10=>?_)
 · refine w_6 ?_;refine hrr ?_;have he:=hap.trans (show mvE n l a.toNat b.toNat (m.getD i.toNat default) = (0,[],3) from (if_pos b8j).trans (if_pos b8i));exact f9 rfl rfl (by rw [he];exact ⟨CoC.agg ⟨CoP.refl _,aw,trivial⟩,CoC.refl _,trivial⟩)
 refine w_7 ?_;refine hrr ?_;have he:=hap.trans (show mvE n l a.toNat b.toNat (m.getD i.toNat default) = (n,ai (l ++ [d7 (l.getD a.toNat default) (l.getD b.toNat default) ((m.getD i.toNat default).lhs ||| (m.getD i.toNat default).rhs)]),0) from (if_pos b8j).trans (if_neg b8i));exact f9 rfl rfl (by rw [he];exact CoL.refl _)
def aq5 (n:Int) (l:List Rw) (p m:List Fd) (i a b:Int):a8 b98 85 [pT n l,pP (fdl p),pP (fdl m), .agg [.raw (.bool false), .raw (.int .i64 i), .raw (.int .i64 a), .raw (.int .i64 b)]] (ae [pT (da n l p m false i a b).1 (da n l p m false i a b).2.1,pI (da n l p m false i a b).2.2]):=by
 refine hpx (nt:=158) Tryz.func85 ?_;refine sx7 ?_;refine m9 0 ?_;refine m9 1 ?_;refine m9 2 ?_;refine w_6 ?_;refine qcx a79 (a3l n l) ?_;refine w_2 ?_;refine hcv (fun h0=>?_) (fun h0=>?_)
 · refine w_6 ?_;refine hrr ?_;have he:=ace (n:=n) (l:=l) (p:=p) (m:=m) (mu:=false) (i:=i) (a:=a) (b:=b) b8p;exact f9 rfl rfl (by rw [he];exact ⟨CoC.agg ⟨CoP.refl _,aw,trivial⟩,CoC.refl _,trivial⟩)
 have hT:tok n l = true:=by simp_all
 obtain ⟨hn0,hn16,hl256,hrow⟩:=eu hT;refine w_8 ?_;refine qcx a69 (zj n p m) ?_;refine w_7 ?_;refine hcn (fun h1=>?_) (fun h1=>?_)
 · refine w_7 ?_;refine hrr ?_;have he:=ae1 (mu:=false) (i:=i) (a:=a) (b:=b) hT b8j;exact f9 rfl rfl (by rw [he];exact ⟨CoC.agg ⟨CoP.refl _,aw,trivial⟩,CoC.refl _,trivial⟩)
 have hbe:bw n p m = 0:=by assumption
 obtain ⟨_,_,hpl,hpa,hml,_⟩:=oj hbe;refine pl ?_;refine aa rfl rfl (fun r2=>?_) (fun r2=>?_)
 ·
  have h2:=tz1 r2;(iterate 4 refine k9 (gtf r2) ?_);refine w_2 ?_;(iterate 3 refine k9 rfl ?_);refine w_2 ?_;(iterate 4 refine k9 rfl ?_);refine w_2 ?_;(iterate 5 refine k9 rfl ?_);refine w_2 ?_;(iterate 3 refine k9 rfl ?_);refine w_2 ?_
  (iterate 9 refine k9 rfl ?_);refine w_2 ?_;(iterate 10 refine k9 rfl ?_);refine w_9 ?_;refine hrr ?_
  have he:=fy (mu:=false) (i:=i) (a:=a) (b:=b) hT hbe bdS;exact f9 rfl rfl (by rw [he];exact ⟨CoC.agg ⟨CoP.refl _,aw,trivial⟩,CoC.refl _,trivial⟩)
 have h2:=tz2 r2;(iterate 4 refine qy ?_ (hg:=(gff r2)));refine w_2 ?_;refine aa rfl rfl (fun r3=>?_) (fun r3=>?_)
 ·
  have h3:=tz1 (ab r2 r3);(iterate 3 refine k9 (gtf r3) ?_);refine w_2 ?_;(iterate 4 refine k9 rfl ?_);refine w_2 ?_;(iterate 5 refine k9 rfl ?_);refine w_2 ?_;(iterate 3 refine k9 rfl ?_);refine w_2 ?_;(iterate 9 refine k9 rfl ?_);refine w_2 ?_
  (iterate 10 refine k9 rfl ?_);refine w_9 ?_;refine hrr ?_
  have he:=fy (mu:=false) (i:=i) (a:=a) (b:=b) hT hbe bdS;exact f9 rfl rfl (by rw [he];exact ⟨CoC.agg ⟨CoP.refl _,aw,trivial⟩,CoC.refl _,trivial⟩)
 have h3:=tz2 (ab r2 r3);(iterate 3 refine qy ?_ (hg:=(gff r3)));refine w_2 ?_;refine aa rfl rfl (fun r4=>?_) (fun r4=>?_)
 ·
  have h4:=tz1 (ab r3 r4);(iterate 4 refine k9 (gtf r4) ?_);refine w_2 ?_;(iterate 5 refine k9 rfl ?_);refine w_2 ?_;(iterate 3 refine k9 rfl ?_);refine w_2 ?_;(iterate 9 refine k9 rfl ?_);refine w_2 ?_;(iterate 10 refine k9 rfl ?_)
  refine w_9 ?_;refine hrr ?_;have he:=fy (mu:=false) (i:=i) (a:=a) (b:=b) hT hbe bdS;exact f9 rfl rfl (by rw [he];exact ⟨CoC.agg ⟨CoP.refl _,aw,trivial⟩,CoC.refl _,trivial⟩)
 have h4:=tz2 (ab r3 r4);(iterate 4 refine qy ?_ (hg:=(gff r4)));refine w_2 ?_;refine aa rfl rfl (fun r5=>?_) (fun r5=>?_)
 ·
  have h5:=tz1 (ab r4 r5);(iterate 5 refine k9 (gtf r5) ?_);refine w_2 ?_;(iterate 3 refine k9 rfl ?_);refine w_2 ?_;(iterate 9 refine k9 rfl ?_);refine w_2 ?_;(iterate 10 refine k9 rfl ?_);refine w_9 ?_;refine hrr ?_
  have he:=fy (mu:=false) (i:=i) (a:=a) (b:=b) hT hbe bdS;exact f9 rfl rfl (by rw [he];exact ⟨CoC.agg ⟨CoP.refl _,aw,trivial⟩,CoC.refl _,trivial⟩)
 have h5:=tz2 (ab r4 r5);(iterate 5 refine qy ?_ (hg:=(gff r5)));refine w_2 ?_;refine aa rfl rfl (fun r6=>?_) (fun r6=>?_)
 ·
  have h6:=tz1 (ab r5 r6);(iterate 3 refine k9 (gtf r6) ?_);refine w_2 ?_;(iterate 9 refine k9 rfl ?_);refine w_2 ?_;(iterate 10 refine k9 rfl ?_);refine w_9 ?_;refine hrr ?_
  have he:=fy (mu:=false) (i:=i) (a:=a) (b:=b) hT hbe bdS;exact f9 rfl rfl (by rw [he];exact ⟨CoC.agg ⟨CoP.refl _,aw,trivial⟩,CoC.refl _,trivial⟩)
 have h6:=tz2 (ab r5 r6);(iterate 3 refine qy ?_ (hg:=(gff r6)));refine w_2 ?_;refine aa rfl rfl (fun r7=>?_) (fun r7=>?_)
 ·
  have h7:=tz1 (ab r6 r7);(iterate 3 refine k9 (gtf r7) ?_);(iterate 5 refine k9 rfl ?_);refine k9 (gtf r7) ?_;refine w_2 ?_;(iterate 10 refine k9 rfl ?_);refine w_9 ?_;refine hrr ?_
  have he:=fy (mu:=false) (i:=i) (a:=a) (b:=b) hT hbe bdS;exact f9 rfl rfl (by rw [he];exact ⟨CoC.agg ⟨CoP.refl _,aw,trivial⟩,CoC.refl _,trivial⟩)
 have h7:=tz2 (ab r6 r7);(iterate 3 refine qy ?_ (hg:=(gff r7)));(iterate 5 refine k9 rfl ?_);refine qy ?_ (hg:=(gff r7));refine w_2 ?_;(iterate 4 refine rq rfl rfl rfl rfl (gff (mz r7 rfl)) ?_);refine w_5 ?_
 refine rq rfl rfl rfl rfl (gff (mz r7 rfl)) ?_;refine w_2 ?_;refine ag _ rfl (fun r8=>?_) (fun r8=>?_)
 · have h8:=tz1 (ab (mz r7 rfl) r8);refine w_6 ?_;refine hrr ?_;have he:=fy (mu:=false) (i:=i) (a:=a) (b:=b) hT hbe bdS;exact f9 rfl rfl (by rw [he];exact ⟨CoC.agg ⟨CoP.refl _,aw,trivial⟩,CoC.refl _,trivial⟩)
 have h8:=tz2 (ab (mz r7 rfl) r8);refine w_2 ?_
 have hnb:¬ fh l p m false i a b:=by
  unfold fh;rintro (h | h | h | h | h | h | ⟨h,h2⟩ | ⟨h,h2⟩) <;> first | omega | cases h
 have hap:=yo (mu:=false) (i:=i) (a:=a) (b:=b) hT hbe hnb;have ha:a.toNat < l.length:=by omega
 have hb:b.toNat < l.length:=by omega
 have hra:=hrow _ ha;have hrb:=hrow _ hb;have hi:i.toNat < p.length:=by omega
 have hu:inU n (p.getD i.toNat default) = true:=b5u.1 hpa _ (by rw [b5c,b5b hi];exact b5l hi);refine gy ?_;refine m9 3 ?_;refine ang ?_;refine qcx xr (xz (l.getD a.toNat default) (l.getD b.toNat default) (p.getD i.toNat default).lhs b8i b8i) ?_;refine w_3 ?_;refine hcv (fun h9=>?_) (fun h9=>?_)
 · refine w_6 ?_;refine hrr ?_;have he:=hap.trans (show fdE n l a.toNat b.toNat (p.getD i.toNat default) = (0,[],1) from if_neg (b5m.1 b8j));exact f9 rfl rfl (by rw [he];exact ⟨CoC.agg ⟨CoP.refl _,aw,trivial⟩,CoC.refl _,trivial⟩)
 refine m7 ?_;refine rc rfl rfl rfl rfl rfl rfl (wgx Tryz.func124) (an9 n l (p.getD i.toNat default).rhs a.toNat b.toNat hn0 hn16 hrow b8i ha hb (fun j hj=>a2d hn0 hn16 hu hj)) (⟨CoC.refl _,CoC.refl _,cci b8i,cci b8i,trivial⟩) rfl rfl ?_;refine ej ?_;refine hcd (fun h10=>?_) (fun h10=>?_)
 · refine w_6 ?_;refine hrr ?_;have hx:=b6i (w9 (d4 l (eqMs (bf l) a.toNat b.toNat (b7 (p.getD i.toNat default).rhs)))) (b81 (j3 _ _));exact f9 rfl rfl (by exfalso;omega)
 refine w_7 ?_;refine hrr ?_;have he:=hap.trans (show fdE n l a.toNat b.toNat (p.getD i.toNat default) = (n,ai (d4 l (eqMs (bf l) a.toNat b.toNat (b7 (p.getD i.toNat default).rhs))),0) from if_pos b8j);exact f9 rfl rfl (by rw [he];exact CoL.refl _)
end
section
open Go.Proofs
def ali (l:List Rw) (hl:∀ i,i < l.length -> (l.getD i default).length <= 17592186044416) (hl2:l.length <= 5864062014805):a8 b98 133 [pR l] (ae [pR l]) :=
 cq.pure (args:=[pR l]) (l:=[.one (.ref 901 l.length)]) (ac2 l hl hl2) rfl ⟨rfl,trivial⟩
def aa4 (n:Int) (l:List Rw) (p m:List Fd) (s:St) (hck:ckE n l p m = 0) (h:sv l p m s) :
 a8 b98 85 [pT n l,pP (fdl p),pP (fdl m),s.pc] (ae [pT (ci n l p m s).1 (ci n l p m s).2.1,pI (ci n l p m s).2.2]):=by
 obtain ⟨mu,i,a,b⟩:=s;obtain ⟨ha,hb,h⟩:=h;obtain ⟨hT,hbe,_⟩:=a72 hck;have ha:a < l.length:=ha;have hb:b < l.length:=hb
 have hne:¬ a = b:=by
  rintro rfl
  rcases h with ⟨_,_,h⟩ | ⟨_,_,h⟩
  · rw [show dm l (p.getD i default) a a = false from za] at h;cases h
  rw [show dt l (m.getD i default) a a = false from zi ha] at h;cases h
 rcases h with ⟨h1,h2,_⟩ | ⟨h1,h2,_⟩
 · cases h1
   have h2:i < p.length:=h2
   have e:=yo (mu:=false) (i:=(i:Int)) (a:=(a:Int)) (b:=(b:Int)) hT hbe (by
    unfold fh
    rintro (h | h | h | h | h | h | ⟨h,h3⟩ | ⟨h,h3⟩) <;> first | omega | cases h)
   simp only [b5t] at e;have hh:=aq5 n l p m i a b;rw [e] at hh;exact hh
 cases h1;have h2:i < m.length:=h2
 have e:=yo (mu:=true) (i:=(i:Int)) (a:=(a:Int)) (b:=(b:Int)) hT hbe (by
  unfold fh
  rintro (h | h | h | h | h | h | ⟨h,h3⟩ | ⟨h,h3⟩) <;> first | omega | cases h)
 simp only [b5t] at e;have hh:=aov n l p m i a b;rw [e] at hh;exact hh
end
section
open Go.Proofs
def arv (F:Nat) (n:Int) (l:List Rw) (p m:List Fd) (hF:tok n l = true -> muC l.flatten l < F) (hFb:F <= 4000000000):a8 b98 92 [pT n l,pP (fdl p),pP (fdl m)] (ae [pP (stl (gc F n l p m).1),pT (gc F n l p m).2.1.1 (gc F n l p m).2.1.2,pI (gc F n l p m).2.2]):=by
 refine hpx (nt:=63) Tryz.func92 ?_;refine sx7 ?_;refine m9 0 ?_;refine qy ?_;refine m9 1 ?_;refine w_6 ?_;refine qcx a79 (a3l n l) ?_;refine w_2 ?_;refine hcv (fun h0=>?_) (fun h0=>?_)
 · refine w_7 ?_;refine hrr ?_;have hk1:ckE n l p m = 1:=if_neg b8p;have he:=a42 (F:=F) (n:=n) (l:=l) (p:=p) (m:=m) b8i;exact f9 rfl rfl (by rw [he,hk1];exact ⟨CoC.one (CoP.sl rfl (.inr rfl) (fun _=>rfl) (fun i j hi _=>absurd hi (b5i i))),CoC.agg ⟨CoP.refl _,aw,trivial⟩,CoC.refl _,trivial⟩)
 have hT:tok n l = true:=by simp_all
 refine w_8 ?_;refine qcx a69 (zj n p m) ?_;refine w_7 ?_;refine hcn (fun h1=>?_) (fun h1=>?_)
 · refine w_8 ?_;refine hrr ?_;have hk1:ckE n l p m = bw n p m:=if_pos hT;have he:=a42 (F:=F) (n:=n) (l:=l) (p:=p) (m:=m) (by rw [hk1];assumption);exact f9 rfl rfl (by rw [he,hk1];exact ⟨CoC.one (CoP.sl rfl (.inr rfl) (fun _=>rfl) (fun i j hi _=>absurd hi (b5i i))),CoC.agg ⟨CoP.refl _,aw,trivial⟩,CoC.refl _,trivial⟩)
 have hbe:bw n p m = 0:=by assumption
 have hck:ckE n l p m = 0:=(if_pos hT).trans hbe;obtain ⟨hn0,hn16,hpl,hpa,hml,_⟩:=oj hbe;obtain ⟨_,_,hl256,hrow⟩:=eu hT;have hbig:∀ i,i < l.length -> (l.getD i default).length <= 17592186044416:=fun i hi=>by rw [hrow i hi];omega
 refine w_7 ?_;refine qcx a7r (ali l hbig b8i) ?_;refine qy ?_;refine m9 2 ?_;refine w_7 ?_;refine eo 11 900 true 4 85 (lf St.c []) b8n rfl (CoP.sl rfl (.inr rfl) (fun h=>h) (fun i j hi _=>absurd hi (b5i i))) (.inr rfl) rfl ?_;refine a4b ?_;refine af (ι:=Nat × List Rw × List St) (ka 1 (ka 2 (ka 7 (ka 10 kn)))) (kb 1 km) (fun x=>⟨[(11,some (.v (.one (.ref 900 x.2.2.length))))],[(2,some (.box [.p (.raw (.int .i64 n)), .p (rl x.2.1)])),(900,some (.arr true 4 85 x.2.2.length (lf St.c x.2.2)))]⟩) (fun x=>StI F n l p m x) (fun x=>x.1) ((F,l,[])) (StI.start hT (hF hT)) kk ?_;rintro x hX;have hXu:=hX.u;have hXb:=hX.b;refine w_6 ?_;refine qcx (wgx Tryz.func134) ((a4z (p:=p) (m:=m) hX.t ▸ aw1 n x.2.1 p m hX.t hpl hml)) ?_;refine w_3 ?_;refine m9 3 ?_;refine w_9 ?_;refine hcv (fun h2=>?_) (fun h2=>?_)
 · have hS:=ahd (by simpa [a4z hX.t] using h2);refine w_9 ?_;refine bm 6 rfl rfl rfl ?_;refine hrr ?_;have he:=(qe hck).trans (hX.fin hS);exact f9 rfl rfl (by rw [he];exact CoL.refl _)
 have hS:=agu (false,0,0,0) (by simpa [a4z hX.t] using h2);refine w_7 ?_;refine qcx (wgx Tryz.func85) (aa4 n x.2.1 p m ((dc x.2.1 p m).getD (false,0,0,0)) ((if_pos hX.t).trans hbe) (a1t hS)) ?_;refine w_3 ?_;refine m9 4 ?_;refine w_9 ?_;refine hcn (fun h3=>?_) (fun h3=>?_)
 · refine w_8 ?_;refine hrr ?_;have he:=(qe hck).trans (hX.err hS b8j);exact f9 rfl rfl (by rw [he];exact ⟨CoC.one (CoP.sl rfl (.inr rfl) (fun _=>rfl) (fun i j hi _=>absurd hi (b5i i))),CoC.agg ⟨CoP.refl _,aw,trivial⟩,CoC.refl _,trivial⟩)
 have hnx:=hX.next hpa hS b8j
 refine w_4 ?_;refine m9 5 ?_;refine r9 6 true ?_;refine w_5 ?_;refine ⟨(x.1 - 1,(ci n x.2.1 p m ((dc x.2.1 p m).getD (false,0,0,0))).2.1,x.2.2 ++ [((dc x.2.1 p m).getD (false,0,0,0))]), ?_, ?_, ?_⟩
 · exact hnx.2
 · show x.1 - 1 < x.1
   omega
 exact ⟨⟨⟨_,rfl,(j0 rfl)⟩,tt⟩,⟨⟨_,rfl,⟨CoP.of_eq (by rw [hnx.1]),CoH.refl _,trivial⟩⟩,⟨_,rfl,(qp rfl (fun j hj=>by match j,hj with | 0,_=>exact CoP.refl _ | 1,_=>exact CoP.refl _ | 2,_=>exact CoP.refl _ | 3,_=>exact CoP.refl _) rfl)⟩,uu⟩⟩
end
end Go.Hx

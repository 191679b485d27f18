/- A part of the proof: X21 X22 X23 Ch19 X24 Ch20 Ch21 X27 Ch23 X28 Ch24. -/
import Derived.Test.YtkkenjdfbojdlaaGreatDoorKx28
set_option linter.all false
set_option maxRecDepth 100000
set_option maxHeartbeats 1000000
namespace Go.Hx
section
open Go.Proofs
def b1r (n:Int) (l:List Rw) (s:AS) (a b:Nat) (h0:0 <= n) (h1:n <= 16) (hrow:∀ i,i < l.length -> (l.getD i default).length = n.toNat) (hl2:l.length <= 4294967296) (ha:a < l.length) (hb:b < l.length) (hs:∀ j,j ∈ aj s -> j < n.toNat):a6 br6 181 [pT n l,pA s,pI (a:Int),pI (b:Int)] (a8 [pT n (av (en l (eqMs (ce l) a b (aj s))))]):=by
 refine hpx (nt:=88) Tryz.func181 ?_;refine sx7 ?_;refine m9 0 ?_;refine m9 1 ?_;refine w_5 ?_;refine fc9 aeg (ay0 l (fun i hi=>by rw [hrow i hi];omega) bqi) trivial ?_;refine w_8 ?_;refine b5 (ka 1 (ka 2 (ka 3 (ka 4 (ka 8 (ka 9 kn)))))) (kb 0 (kb 1 km)) (fun j=>⟨[(10,some (vI j))],[(901,some (.nest 84 3 1 l.length (fun i=>(l.getD i default).length) (mg (eqMs (ce l) a b (eu s j))) none))]⟩) n.toNat kk ?_;rintro j hj;refine w_2 ?_;have hra:=hrow a ha;have hrb:=hrow b hb;refine w_6 ?_;refine hcd (fun h0=>?_) (fun h0=>?_)
 ·
  refine c5 ?_;(iterate 2 refine rq rfl rfl rfl rfl rfl ?_ (hp:=(by (try simp only [bmn,nM]);(repeat' apply And.intro) <;> first | trivial | rfl | omega | exact bmc rfl)));refine w_5 ?_;(iterate 2 refine rq rfl rfl rfl rfl rfl ?_ (hp:=(by (try simp only [bmn,nM]);(repeat' apply And.intro) <;> first | trivial | rfl | omega | exact bmc rfl)));refine w_9 ?_
  refine qcx ov (a1z s (j:Int)) ?_;refine w_2 ?_;refine ah rfl rfl (fun r1=>?_) (fun r1=>?_)
  ·
   have h1:=cu r1;(iterate 3 refine k9 (gtf r1) ?_);refine rq rfl rfl rfl rfl rfl ?_ (hp:=r1);refine w_8 ?_
   exact lpx (j + 1) ⟨tt,⟨⟨_,rfl,(by first | (rw [rj bqi bqj];exact CoO.refl _) | (rw [ni bqi bqj,u7,w5 bqj];exact CoO.refl _) | (rw [ni bqi bqj,u7];exact ta (a04 bqi)))⟩,uu⟩⟩
  have h1:=ct r1;(iterate 3 refine qy ?_ (hg:=(gff r1)));refine w_2 ?_;refine ak _ rfl (fun r2=>?_) (fun r2=>?_)
  · have h2:=tz1 (au r1 r2);refine w_6 ?_;exact lpx (j + 1) ⟨tt,⟨⟨_,rfl,(by first | (rw [rj bqi bqj];exact CoO.refl _) | (rw [ni bqi bqj,u7,w5 bqj];exact CoO.refl _) | (rw [ni bqi bqj,u7];exact ta (a04 bqi)))⟩,uu⟩⟩
  have h2:=tz2 (au r1 r2);refine w_8 ?_;refine jx (ka 1 (ka 2 (ka 3 (ka 4 (ka 8 (ka 9 (ka 10 kn))))))) (kb 0 (kb 1 km)) ⟨[(13,some (vI (loI ((eqMs (ce l) a b (eu s j)) a j) ((eqMs (ce l) a b (eu s j)) b j)))),(14,some (vI (hiI ((eqMs (ce l) a b (eu s j)) a j) ((eqMs (ce l) a b (eu s j)) b j))))],[(901,some (.nest 84 3 1 l.length (fun i=>(l.getD i default).length) (mg (eqMs (ce l) a b (eu s j))) none))]⟩ ?_ ?_
  ·
   refine w_6 ?_;refine hcd (fun h3=>?_) (fun h3=>?_)
   · refine w_6 ?_;exact ⟨⟨⟨_,rfl,(bj (by simp only [bmn];unfold loI;split <;> omega))⟩,⟨_,rfl,(bj (by simp only [bmn];unfold hiI;split <;> omega))⟩,tt⟩,uu⟩
   refine ck ?_;exact ⟨⟨⟨_,rfl,(bj (by simp only [bmn];unfold loI;split <;> omega))⟩,⟨_,rfl,(bj (by simp only [bmn];unfold hiI;split <;> omega))⟩,tt⟩,uu⟩
  refine w_5 ?_;refine b5 (ka 1 (ka 2 (ka 3 (ka 4 (ka 8 (ka 9 (ka 10 (ka 13 (ka 14 kn))))))))) (kb 0 (kb 1 km)) (fun i=>⟨[(15,some (vI i))],[(901,some (.nest 84 3 1 l.length (fun i=>(l.getD i default).length) (mg (mr (eqMs (ce l) a b (eu s j)) (hiI ((eqMs (ce l) a b (eu s j)) a j) ((eqMs (ce l) a b (eu s j)) b j)) (loI ((eqMs (ce l) a b (eu s j)) a j) ((eqMs (ce l) a b (eu s j)) b j)) i 0)) none))]⟩) l.length ⟨tt,⟨⟨_,rfl,(by rw [aha];exact CoO.refl _)⟩,trivial⟩⟩ ?_;rintro i hi;refine w_8 ?_;refine hcd (fun h4=>?_) (fun h4=>?_)
  ·
   have hri:=hrow i bqi;refine w_8 ?_;refine b5 (ka 1 (ka 2 (ka 3 (ka 4 (ka 8 (ka 9 (ka 10 (ka 13 (ka 14 (ka 15 kn)))))))))) (kb 0 (kb 1 km)) (fun k=>⟨[(16,some (vI k))],[(901,some (.nest 84 3 1 l.length (fun i=>(l.getD i default).length) (mg (mr (eqMs (ce l) a b (eu s j)) (hiI ((eqMs (ce l) a b (eu s j)) a j) ((eqMs (ce l) a b (eu s j)) b j)) (loI ((eqMs (ce l) a b (eu s j)) a j) ((eqMs (ce l) a b (eu s j)) b j)) i k)) none))]⟩) n.toNat kk ?_;rintro k hk;refine w_8 ?_;refine hcd (fun h5=>?_) (fun h5=>?_)
   ·
    refine c5 ?_;(iterate 2 refine rq rfl rfl rfl rfl rfl ?_ (hp:=(by (try simp only [bmn,nM]);(repeat' apply And.intro) <;> first | trivial | rfl | omega | exact bmc rfl)));refine w_3 ?_;refine hcd (fun h6=>?_) (fun h6=>?_)
    · refine w_7 ?_;refine rq rfl rfl rfl rfl rfl ?_ (hp:=(by (try simp only [bmn,nM]);(repeat' apply And.intro) <;> first | trivial | rfl | omega | exact bmc rfl));refine rs rfl rfl rfl rfl rfl ?_ (hp:=(by (try simp only [bmn,nM]);(repeat' apply And.intro) <;> first | trivial | rfl | omega | exact bmc rfl));refine w_6 ?_;exact lpx (k + 1) ⟨tt,⟨⟨_,rfl,(by first | exact a8r (adi bqj) bqm bqm | (rw [ae2 bqj];exact CoO.refl _))⟩,uu⟩⟩
    refine w_6 ?_;exact lpx (k + 1) ⟨tt,⟨⟨_,rfl,(by first | exact a8r (adi bqj) bqm bqm | (rw [ae2 bqj];exact CoO.refl _))⟩,uu⟩⟩
   refine w_6 ?_;exact lpx (i + 1) ⟨tt,⟨⟨_,rfl,(ta (an2 bqi))⟩,uu⟩⟩
  refine w_6 ?_;exact lpx (j + 1) ⟨tt,⟨⟨_,rfl,(by first | (rw [rj bqi bqj];exact CoO.refl _) | (rw [ni bqi bqj,u7,w5 bqj];exact CoO.refl _) | (rw [ni bqi bqj,u7];exact ta (a04 bqi)))⟩,uu⟩⟩
 obtain rfl:j = n.toNat:=by omega
 refine w_2 ?_;have hme:=ayj (s:=s) (n:=n.toNat) bqi hs;refine ash 901 rfl ?_;refine al 9 rfl rfl rfl ?_;refine w_4 ?_;refine rc rfl rfl rfl rfl rfl rfl afa (abf n (en l (eqMs (ce l) a b (aj s))) (by rw [mf];omega)) (⟨CoC.refl _,CoC.one (by rw [hme];exact b30 rfl),trivial⟩) rfl rfl ?_;refine v_2 ?_;exact CoL.refl _
end
section
open Go.Proofs
def bqx {p:Prop} (h:p:=by first | omega | (simp only [bmn];omega)):p:=h
def br4 {p:Prop} (h:p:=by first | exact vi bqi bqj bqi bqi | exact ws (bmm.1 bqj)):p:=h
def bhn (n:Int) (l:List Rw) (x:Fd) (a b:Nat) (h0:0 <= n) (h1:n <= 16) (hrow:∀ i,i < l.length -> (l.getD i default).length = n.toNat) (hl2:l.length <= 4294967296) (ha:a < l.length) (hb:b < l.length):a6 br6 180 [pT n l,x.pc,pI (a:Int),pI (b:Int)] (a8 [pT n (av (l ++ [(ef (l.getD a default) (l.getD b default) (x.lhs ||| x.rhs))]))]):=by
 refine hpx (nt:=51) Tryz.func180 ?_;refine sx7 ?_;refine m9 0 ?_;refine m9 1 ?_;refine m9 2 ?_;refine w_2 ?_;have hra:=hrow a ha;have hrb:=hrow b hb;refine gy ?_;refine m9 3 ?_;refine w_5 ?_;refine r9 4 true ?_;refine w_8 ?_;refine b5 (ka 2 (ka 4 (ka 5 (ka 8 (ka 9 kn))))) (kb 0 (kb 1 (kb 2 km))) (fun j=>⟨[(10,some (vI j))],[(3,some (.arr true 1 3 (0 + (l.getD b default).length) (lf zC (mz (l.getD a default) (l.getD b default) (x.lhs ||| x.rhs) j))))]⟩) n.toNat ⟨tt,⟨⟨_,rfl,(aoc (fun _ _=>rfl))⟩,trivial⟩⟩ ?_;rintro j hj;refine w_8 ?_;refine hcd (fun h0=>?_) (fun h0=>?_)
 ·
  refine cq ?_;refine rc rfl rfl rfl rfl rfl rfl ov (a1z (x.lhs ||| x.rhs) (j:Int)) (⟨cci (by rw [bOr]),CoC.refl _,trivial⟩) rfl rfl ?_;refine bz ?_;refine hcb (fun h1=>?_) (fun h1=>?_)
  · refine w_9 ?_;(iterate 3 refine rq rfl rfl rfl rfl rfl ?_ (hp:=(by (try simp only [bmn,nM]);(repeat' apply And.intro) <;> first | trivial | rfl | omega | exact bmc rfl)));refine rs rfl rfl rfl rfl rfl ?_ (hp:=(by (try simp only [bmn,nM]);(repeat' apply And.intro) <;> first | trivial | rfl | omega | exact bmc rfl));refine w_6 ?_;exact lpx (j + 1) ⟨tt,⟨⟨_,rfl,br4⟩,uu⟩⟩
  refine w_6 ?_;exact lpx (j + 1) ⟨tt,⟨⟨_,rfl,br4⟩,uu⟩⟩
 obtain rfl:j = n.toNat:=by omega
 refine w_2 ?_;refine al 9 rfl rfl rfl ?_;refine w_5 ?_;refine fc9 aeg (alo l (fun i hi=>by rw [hrow i hi];omega) bqi) trivial ?_;refine qy ?_;refine m9 5 ?_;refine r9 6 true ?_;refine gj rfl rfl rfl rfl rfl rfl afa (a6.eat (hcs:=[.one (.p (.raw (.int .i64 n))), .one (.ref 901 (l ++ [(ef (l.getD a default) (l.getD b default) (x.lhs ||| x.rhs))]).length)]) (o1:=[(901, .arr true 1 84 (l ++ [(ef (l.getD a default) (l.getD b default) (x.lhs ||| x.rhs))]).length (lf rC (l ++ [(ef (l.getD a default) (l.getD b default) (x.lhs ||| x.rhs))])))]) (abf n (l ++ [(ef (l.getD a default) (l.getD b default) (x.lhs ||| x.rhs))]) bqt) rfl (by (repeat' apply And.intro) <;> first | trivial | rfl) (CoL.refl _)) (⟨CoP.refl _,congrArg (HV.ref 901) bqm,trivial⟩) ⟨⟨_,rfl,(bh rfl (as4 bqx bqx))⟩,trivial⟩ rfl rfl ?_;refine v_3 ?_;exact CoL.refl _
end
section
open Go.Proofs
def bkj (n:Int) (l:List Rw) (p m:List Fd) (i a b:Nat) (h0:0 <= n) (h1:n <= 16) (hrow:∀ i,i < l.length -> (l.getD i default).length = n.toNat) (ha:a < l.length) (hb:b < l.length) (hi:i < p.length):a6 br6 228 [pT n l,pP (fdl p),pP (fdl m), .agg [.raw (.bool false), .raw (.int .i64 (i:Int)), .raw (.int .i64 (a:Int)), .raw (.int .i64 (b:Int))]] (a8 [pB (ff l (p.getD i default) a b)]):=by
 refine hpx (nt:=85) Tryz.func228 ?_;refine sx7 ?_;refine m9 0 ?_;refine m9 1 ?_;refine w_3 ?_;have hra:=hrow a ha;have hrb:=hrow b hb;refine au2 ?_;refine w_3 ?_;refine qcx a34 (a2r (l.getD a default) (l.getD b default) (p.getD i default).lhs bqi bqi) ?_;refine qy ?_;refine ah rfl rfl (fun r0=>?_) (fun r0=>?_)
 ·
  have h0:=r0;(iterate 8 refine qy ?_ (hg:=(gtt r0)));refine qcx a34 (a2r (l.getD a default) (l.getD b default) (p.getD i default).rhs bqi bqi) ?_ (hg:=(gtt r0));refine qy ?_ (hg:=(gtt r0));refine w_3 ?_
  exact hx8 rfl rfl rfl (⟨ccb (by first | exact (a5b bqj).symm | simp_all [ff]),trivial⟩)
 have h0:=r0;(iterate 10 refine k9 (gft r0) ?_);refine rq rfl rfl rfl rfl rfl ?_ (hp:=r0);refine w_2 ?_
 exact hx8 rfl rfl rfl (⟨ccb (by first | exact (a5b bqj).symm | simp_all [ff]),trivial⟩)
def bjx (n:Int) (l:List Rw) (p m:List Fd) (i a b:Nat) (h0:0 <= n) (h1:n <= 16) (hrow:∀ i,i < l.length -> (l.getD i default).length = n.toNat) (ha:a < l.length) (hb:b < l.length) (hi:i < m.length):a6 br6 228 [pT n l,pP (fdl p),pP (fdl m), .agg [.raw (.bool true), .raw (.int .i64 (i:Int)), .raw (.int .i64 (a:Int)), .raw (.int .i64 (b:Int))]] (a8 [pB (a8z l (m.getD i default) a b)]):=by
 refine hpx (nt:=85) Tryz.func228 ?_;refine sx7 ?_;refine m9 0 ?_;refine m9 1 ?_;refine w_3 ?_;have hra:=hrow a ha;have hrb:=hrow b hb;refine au2 ?_;refine qy ?_;refine m9 2 ?_;refine w_9 ?_;refine qcx a34 (a2r (l.getD a default) (l.getD b default) (m.getD i default).lhs bqi bqi) ?_;refine w_2 ?_;refine hcv (fun h0=>?_) (fun h0=>?_)
 · refine v_4 ?_;exact ⟨ccb (by unfold a8z;simp_all),trivial⟩
 refine w_3 ?_;refine m9 3 ?_;refine qy ?_;refine r9 4 true ?_;refine w_8 ?_;refine b5 (ka 4 (ka 9 (ka 11 (ka 12 kn)))) (kb 0 (kb 2 km)) (fun j=>⟨[(13,some (vI j))],[(3,some (.arr true 1 3 (0 + (l.getD b default).length) (lf zC (mz (l.getD a default) (l.getD b default) (m.getD i default).rhs j))))]⟩) n.toNat ⟨tt,⟨⟨_,rfl,(aoc (fun _ _=>rfl))⟩,trivial⟩⟩ ?_;rintro j hj;refine w_8 ?_;refine hcd (fun h1=>?_) (fun h1=>?_)
 ·
  refine w_8 ?_;refine qcx ov (a1z (m.getD i default).rhs (j:Int)) ?_;refine bz ?_;refine hcb (fun h2=>?_) (fun h2=>?_)
  · refine w_5 ?_;(iterate 3 refine rq rfl rfl rfl rfl rfl ?_ (hp:=(by (try simp only [bmn,nM]);(repeat' apply And.intro) <;> first | trivial | rfl | omega | exact bmc rfl)));refine rs rfl rfl rfl rfl rfl ?_ (hp:=(by (try simp only [bmn,nM]);(repeat' apply And.intro) <;> first | trivial | rfl | omega | exact bmc rfl));refine w_6 ?_;exact lpx (j + 1) ⟨tt,⟨⟨_,rfl,br4⟩,uu⟩⟩
  refine w_6 ?_;exact lpx (j + 1) ⟨tt,⟨⟨_,rfl,br4⟩,uu⟩⟩
 obtain rfl:j = n.toNat:=by omega
 refine w_2 ?_;refine al 12 rfl rfl rfl ?_;refine w_3 ?_;refine rc rfl rfl rfl rfl rfl rfl ajn (alx n l (ef (l.getD a default) (l.getD b default) (m.getD i default).rhs)) (⟨CoC.refl _,as4 bqx bqx,trivial⟩) rfl rfl ?_;refine v_3 ?_;exact ⟨ccb (by unfold a8z;simp_all),trivial⟩
end
section
open Go.Proofs
def muK (p:List Fd) (k:Nat):Bool:=decide (p.length <= k)
def ixK (p:List Fd) (k:Nat):Nat:=if p.length <= k then k - p.length else k
def chE (l:List Rw) (p m:List Fd) (s:St):Bool:=if s.1 = true then a8z l (m.getD s.2.1 default) s.2.2.1 s.2.2.2 else ff l (p.getD s.2.1 default) s.2.2.1 s.2.2.2
def cCh (n:Int) (l:List Rw) (p m:List Fd) (k a b:Nat) (hT:tok n l = true) (ha:a < l.length) (hb:b < l.length) (hk:k < p.length + m.length) :
 a6 br6 228 [pT n l,pP (fdl p),pP (fdl m),St.pc (muK p k,ixK p k,a,b)] (a8 [pB (chE l p m (muK p k,ixK p k,a,b))]):=by
 obtain ⟨h0,h1,h2,h3⟩:=jk hT;by_cases h:p.length <= k
 · have e1:muK p k = true:=decide_eq_true h
   have e2:ixK p k = k - p.length:=if_pos h;rw [e1,e2];exact bjx n l p m (k - p.length) a b h0 h1 h3 ha hb bqi
 have e1:muK p k = false:=decide_eq_false h;have e2:ixK p k = k:=if_neg h;rw [e1,e2];exact bkj n l p m k a b h0 h1 h3 ha hb bqi
def jl (l:List Rw) (p m:List Fd) (k a b:Nat):Bool:=decide (a ≠ b) && chE l p m (muK p k,ixK p k,a,b)
def a1c (l:List Rw) (p m:List Fd):Option St:=(fz (jl l p m) (p.length + m.length) l.length).map fun x=>(muK p x.1,ixK p x.1,x.2.1,x.2.2)
section
variable {l:List Rw} {p m:List Fd} {k a b:Nat}
def bbf (h:¬ a = b) (h2:chE l p m (muK p k,ixK p k,a,b) = true):jl l p m k a b = true:=by unfold jl;rw [decide_eq_true h,h2];rfl
def ams (h:a = b):jl l p m k a b = false:=by unfold jl;rw [decide_eq_false (fun e=>e h)];rfl
def akk (h2:chE l p m (muK p k,ixK p k,a,b) = false):jl l p m k a b = false:=by unfold jl;rw [h2,bqg]
def b7w (h:fz (jl l p m) (p.length + m.length) l.length = some (k,a,b)):a1c l p m = some (muK p k,ixK p k,a,b):=by unfold a1c;rw [h];rfl
def b87 (h:fz (jl l p m) (p.length + m.length) l.length = none):a1c l p m = none:=by unfold a1c;rw [h];rfl
end
end
section
open Go.Proofs
def bgs (n:Int) (l:List Rw) (p m:List Fd) (hT:tok n l = true) (hp:p.length <= 64) (hm:m.length <= 64):a6 br6 183 [pT n l,pP (fdl p),pP (fdl m)] (a8 [St.pc ((a1c l p m).getD (false,0,0,0)),pB (a1c l p m).isSome]):=by
 refine hpx (nt:=66) Tryz.func183 ?_;refine cb ?_;obtain ⟨hn0,hn16,hl256,hrow⟩:=jk hT;refine c8 1 rfl fun hn1=>?_;refine c8 2 rfl fun hn2=>?_;refine gy ?_;refine m9 0 ?_;refine m9 1 ?_;refine w_8 ?_;refine ae (ι:=Nat) (ka 1 (ka 2 (ka 3 (ka 6 kn)))) (kb 0 (kb 1 km)) (fun k=>⟨[(8,some (vI k))],[]⟩) (fun k=>k <= p.length + m.length /\ ∀ i',i' < k -> ∀ a',a' < l.length -> ∀ b',b' < l.length -> jl l p m i' a' b' = false) (fun k=>p.length + m.length - k) (0) (⟨bmh _,bq⟩) kk ?_;rintro k ⟨hk,hK⟩;refine cq ?_;refine hcd (fun h0=>?_) (fun h0=>?_)
 ·
  refine w_7 ?_;refine m9 2 ?_;refine w_2 ?_;refine jx (ka 1 (ka 2 (ka 3 (ka 6 (ka 8 (ka 9 kn)))))) (kb 0 (kb 1 km)) ⟨[],[(2,some (.box [.p (.raw (.bool (muK p k))), .p (.raw (.int .i64 (ixK p k:Int))), .p (.raw (.int .i64 0)), .p (.raw (.int .i64 0))]))]⟩ ?_ ?_
  ·
   refine w_7 ?_;refine hcd (fun h1=>?_) (fun h1=>?_)
   · refine w_8 ?_;exact ⟨tt,⟨⟨_,rfl,(by unfold muK ixK;first | (rw [decide_eq_true bqi,if_pos bqi];refine ⟨CoP.refl _,CoP.of_eq (by congr 2;omega),CoP.refl _,CoP.refl _,trivial⟩) | (rw [decide_eq_false bqi,if_neg bqi];exact ⟨CoP.refl _,CoP.refl _,CoP.refl _,CoP.refl _,trivial⟩))⟩,uu⟩⟩
   refine ck ?_;exact ⟨tt,⟨⟨_,rfl,(by unfold muK ixK;first | (rw [decide_eq_true bqi,if_pos bqi];refine ⟨CoP.refl _,CoP.of_eq (by congr 2;omega),CoP.refl _,CoP.refl _,trivial⟩) | (rw [decide_eq_false bqi,if_neg bqi];exact ⟨CoP.refl _,CoP.refl _,CoP.refl _,CoP.refl _,trivial⟩))⟩,uu⟩⟩
  refine w_6 ?_;refine ae (ι:=Nat × Nat) (ka 1 (ka 2 (ka 3 (ka 6 (ka 8 (ka 9 kn)))))) (kb 0 (kb 1 km)) (fun y=>⟨[],[(2,some (.box [.p (.raw (.bool (muK p k))), .p (.raw (.int .i64 (ixK p k:Int))), .p (.raw (.int .i64 (y.1:Int))), .p (.raw (.int .i64 (y.2:Int)))]))]⟩) (fun y=>y.1 <= l.length /\ ∀ a',a' < y.1 -> ∀ b',b' < l.length -> jl l p m k a' b' = false) (fun y=>l.length - y.1) ((0,0)) (⟨bmh _,bq⟩) kk ?_;rintro y ⟨hy,hA⟩;refine c5 ?_;refine hcd (fun h2=>?_) (fun h2=>?_)
  ·
   refine w_9 ?_;refine ae (ι:=Nat) (ka 1 (ka 2 (ka 3 (ka 6 (ka 8 (ka 9 kn)))))) (kb 0 (kb 1 km)) (fun b=>⟨[],[(2,some (.box [.p (.raw (.bool (muK p k))), .p (.raw (.int .i64 (ixK p k:Int))), .p (.raw (.int .i64 (y.1:Int))), .p (.raw (.int .i64 (b:Int)))]))]⟩) (fun b=>b <= l.length /\ ∀ b',b' < b -> jl l p m k y.1 b' = false) (fun b=>l.length - b) (0) (⟨bmh _,bq⟩) kk ?_;rintro b ⟨hb,hB⟩;refine c5 ?_;refine hcd (fun h3=>?_) (fun h3=>?_)
   ·
    refine cq ?_;refine ah rfl rfl (fun r4=>?_) (fun r4=>?_)
    ·
     have h4:=tz2 (cu r4);(iterate 4 refine qy ?_ (hg:=(gtt r4)));refine qcx (wgx Tryz.func228) (cCh n l p m k y.1 b hT bqi bqi bqi) ?_ (hg:=(gtt r4));refine w_2 ?_;refine ak _ rfl (fun r5=>?_) (fun r5=>?_)
     · have h5:=br r4 r5;refine w_6 ?_;refine hrr ?_;have he:=b7w (a29 (P:=jl l p m) (i:=k) (a:=y.1) (b:=b) bqi bqi bqi (bbf bqi bqj) hK hA hB);exact f9 rfl rfl (by rw [he];exact CoL.refl _)
     have h5:=br r4 r5;refine w_8 ?_;refine lpz (b + 1) kk ?_;exact ⟨by show b + 1 <= _;omega,aw hB (by first | exact ams bqi | exact akk bqj)⟩
    have h4:=tz1 (ct r4);(iterate 5 refine k9 (gft r4) ?_);refine rq rfl rfl rfl rfl rfl ?_ (hp:=r4);refine c5 ?_;refine lpz (b + 1) kk ?_
    exact ⟨by show b + 1 <= _;omega,aw hB (by first | exact ams bqi | exact akk bqj)⟩
   refine w_8 ?_;refine lpz (y.1 + 1,b) kk ?_;exact ⟨by show y.1 + 1 <= _;omega,aw hA (fun b' hb'=>hB b' bqi)⟩
  refine w_6 ?_;refine lpz (k + 1) kk ?_;exact ⟨by show k + 1 <= _;omega,aw hK (fun a' ha'=>hA a' bqi)⟩
 refine w_7 ?_;refine hrr ?_;have he:=b87 (a23 (P:=jl l p m) (I:=p.length + m.length) (L:=l.length) fun j hj=>hK j bqi);exact f9 rfl rfl (by rw [he];exact CoL.refl _)
end
section
def zo {α:Type} {f g:Nat -> Option α}:∀ {ks:List Nat},(∀ k,k ∈ ks -> f k = g k) -> ks.findSome? f = ks.findSome? g
 | [],_=>rfl
 | k :: ks,h=>by
  have h1:=h k bqm;have h2:=zo (ks:=ks) fun j hj=>h j (by simp [hj]);simp only [List.findSome?_cons,h1,h2]
def abk {p q:Nat -> Bool}:∀ {ks:List Nat},(∀ k,k ∈ ks -> p k = q k) -> ks.find? p = ks.find? q
 | [],_=>rfl
 | k :: ks,h=>by
  have h1:=h k bqm;have h2:=abk (ks:=ks) fun j hj=>h j (by simp [hj]);simp only [List.find?_cons,h1,h2]
def b5q {s t:AS} {i:Nat}:d6 (s ||| t) (i:Int) = (d6 s (i:Int) || d6 t (i:Int)):=by
 by_cases h:i < 32
 · rw [gk h,gk h,gk h,bo4]
 rw [a02 bqi,a02 bqi,a02 bqi];rfl
def b9o {a b:Rw} {s t:AS} (hl:a.length = b.length) (h:lm a b s = true):ef a b t = ef a b (s ||| t):=by
 have h:=of_decide_eq_true h;unfold ef;refine boo fun i hi=>?_;have hi:=bmq.1 hi;rw [b5q];by_cases h1:d6 s (i:Int) = true
 · have:=h i bqi h1
   rw [h1,Bool.true_or,if_pos rfl];split
   · rfl
   exact this.symm
 rw [bmm.2 h1,Bool.false_or]
def azs (a:Rw) (s:AS):ef a a s = a:=by
 refine ol (qi a a s) fun j hj=>?_;rw [qi] at hj;unfold ef;rw [bmb,bn0,bny hj];show (if d6 s (j:Int) = true then a.getD j default else a.getD j default) = _;split <;> rfl
section
variable {a:Nat} {l:List Rw}
def a5c {x:Fd}:ff l x a a = false:=aaj (a3c fun _ _ _=>rfl)
def a4z {x:Fd} (ha:a < l.length):fk l x a a = false:=by
 refine abe ?_;rw [azs,bne];exact ⟨_,a3a ha,decide_eq_true rfl⟩
def b1w {n:Int} {x:Fd} {b:Nat} (hT:tok n l = true) (ha:a < l.length) (hb:b < l.length):a8z l x a b = fk l x a b:=by
 obtain ⟨_,_,_,h3⟩:=jk hT;unfold a8z fk;by_cases h:lm (l.getD a default) (l.getD b default) x.lhs = true
 · rw [b9o (by rw [h3 a ha,h3 b hb]) h]
 rw [bmm.2 h];rfl
def b9h {p m:List Fd} {k b:Nat} (hk:k < p.length):jl l p m k a b = ff l (p.getD k default) a b:=by
 have e1:muK p k = false:=decide_eq_false bqi;have e2:ixK p k = k:=if_neg bqi;unfold jl;rw [e1,e2];by_cases h:a = b
 · subst h;rw [a5c,decide_eq_false (fun e=>e rfl)];rfl
 rw [decide_eq_true h];rfl
def b9c {n:Int} {p m:List Fd} {k b:Nat} (hT:tok n l = true) (ha:a < l.length) (hb:b < l.length):jl l p m (p.length + k) a b = fk l (m.getD k default) a b:=by
 have e1:muK p (p.length + k) = true:=decide_eq_true bqi;have e2:ixK p (p.length + k) = k:=(if_pos bqi).trans bqi;unfold jl;rw [e1,e2];by_cases h:a = b
 · subst h;rw [a4z ha,decide_eq_false (fun e=>e rfl)];rfl
 rw [decide_eq_true h,<- b1w hT ha hb];rfl
def ab7 {n:Int} {p m:List Fd} (hT:tok n l = true):a1c l p m = f7 l p m:=by
 have e1:(List.range p.length).findSome? (fun i=>(List.range l.length).findSome? fun a=>((List.range l.length).find? fun b=>jl l p m i a b).map fun b=>(i,a,b)) = fz (fun i a b=>ff l (p.getD i default) a b) p.length l.length :=
  zo fun i hi=>zo fun a _=>by rw [abk fun b _=>b9h (bmq.1 hi)]
 have e2:(List.range m.length).findSome? (fun i=>(List.range l.length).findSome? fun a=>((List.range l.length).find? fun b=>jl l p m (p.length + i) a b).map fun b=>(p.length + i,a,b)) = (fz (fun i a b=>fk l (m.getD i default) a b) m.length l.length).map fun x=>(p.length + x.1,x.2):=by
  unfold fz;rw [List.map_findSome?];refine zo fun i _=>?_;show _ = Option.map _ ((List.range l.length).findSome? _);rw [List.map_findSome?];refine zo fun a ha=>?_;rw [abk fun b hb=>b9c hT (bmq.1 ha) (bmq.1 hb)];show _ = Option.map _ (Option.map _ _);rw [Option.map_map];rfl
 have e:fz (jl l p m) (p.length + m.length) l.length = (fz (fun i a b=>ff l (p.getD i default) a b) p.length l.length).or ((fz (fun i a b=>fk l (m.getD i default) a b) m.length l.length).map fun x=>(p.length + x.1,x.2)):=by
  rw [<- e1,<- e2];unfold fz;rw [List.range_add,bqh,List.findSome?_map];rfl
 unfold a1c f7;rw [e]
 cases h:fz (fun i a b=>ff l (p.getD i default) a b) p.length l.length with
 | some x =>
  obtain ⟨i,a,b⟩:=x;have hi:=(a5e h).1;show some (muK p i,ixK p i,a,b) = some (false,i,a,b);rw [show muK p i = false from decide_eq_false bqi,show ixK p i = i from if_neg bqi]
 | none =>
  rw [Option.none_or]
  cases fz (fun i a b=>fk l (m.getD i default) a b) m.length l.length with
  | none=>rfl
  | some x =>
   obtain ⟨i,a,b⟩:=x;show some (muK p (p.length + i),ixK p (p.length + i),a,b) = some (true,i,a,b);rw [show muK p (p.length + i) = true from decide_eq_true bqi,show ixK p (p.length + i) = i from (if_pos bqi).trans bqi]
end
end
section
def io (l:List Rw) (p m:List Fd) (mu:Bool) (i a b:Int):Prop:=a < 0 \/ (l.length:Int) <= a \/ b < 0 \/ (l.length:Int) <= b \/ a = b \/ i < 0 \/ (mu = true /\ (m.length:Int) <= i) \/ (mu = false /\ (p.length:Int) <= i)
instance (l:List Rw) (p m:List Fd) (mu:Bool) (i a b:Int):Decidable (io l p m mu i a b):=by unfold io;infer_instance
def bdS {l:List Rw} {p m:List Fd} {mu:Bool} {i a b:Int} (h:io l p m mu i a b:=by unfold io;first | exact .inl bqi | exact .inr (.inl bqi) | exact .inr (.inr (.inl bqi)) | exact .inr (.inr (.inr (.inl bqi))) | exact .inr (.inr (.inr (.inr (.inl bqi)))) | exact .inr (.inr (.inr (.inr (.inr (.inl bqi))))) | exact .inr (.inr (.inr (.inr (.inr (.inr (.inl ⟨by first | rfl | assumption | simp_all,by omega⟩)))))) | exact .inr (.inr (.inr (.inr (.inr (.inr (.inr ⟨by first | rfl | assumption | simp_all,by omega⟩))))))):io l p m mu i a b:=h
def ey (n:Int) (l:List Rw) (p m:List Fd) (mu:Bool) (i a b:Int):Int × List Rw × Int :=
 if ckE n l p m = 0 then if io l p m mu i a b then (0,[],1) else dx n l p m (mu,i.toNat,a.toNat,b.toNat) else (0,[],ckE n l p m)
section
variable {n:Int} {l:List Rw} {p m:List Fd} {mu:Bool} {i a b:Int}
def ak5 (h:tok n l = false):ey n l p m mu i a b = (0,[],1):=by
 have e:ckE n l p m = 1:=if_neg (by rw [h];decide);unfold ey;rw [e];rfl
def alg (h:tok n l = true) (h2:¬ bt n p m = 0):ey n l p m mu i a b = (0,[],bt n p m):=by
 have e:ckE n l p m = bt n p m:=if_pos h;unfold ey;rw [e,if_neg h2]
def j0 (h:tok n l = true) (h2:bt n p m = 0) (h3:io l p m mu i a b):ey n l p m mu i a b = (0,[],1):=by
 have e:ckE n l p m = bt n p m:=if_pos h;unfold ey;rw [e,if_pos h2,if_pos h3]
def a4t (h:tok n l = true) (h2:bt n p m = 0) (h3:¬ io l p m mu i a b):ey n l p m mu i a b = dx n l p m (mu,i.toNat,a.toNat,b.toNat):=by
 have e:ckE n l p m = bt n p m:=if_pos h;unfold ey;rw [e,if_pos h2,if_neg h3]
end
end
section
open Go.Proofs
def b0r (n:Int) (l:List Rw) (p m:List Fd) (i a b:Int):a6 br6 131 [pT n l,pP (fdl p),pP (fdl m), .agg [.raw (.bool true), .raw (.int .i64 i), .raw (.int .i64 a), .raw (.int .i64 b)]] (a8 [pT (ey n l p m true i a b).1 (ey n l p m true i a b).2.1,pI (ey n l p m true i a b).2.2]):=by
 refine hpx (nt:=158) Tryz.func131 ?_;refine sx7 ?_;refine m9 0 ?_;refine m9 1 ?_;refine m9 2 ?_;refine w_6 ?_;refine qcx aef (abt n l) ?_;refine w_2 ?_;refine hcv (fun h0=>?_) (fun h0=>?_)
 · refine w_6 ?_;refine hrr ?_;have he:=ak5 (n:=n) (l:=l) (p:=p) (m:=m) (mu:=true) (i:=i) (a:=a) (b:=b) bqs;exact f9 rfl rfl (by rw [he];exact ⟨CoC.agg ⟨CoP.refl _,bf,trivial⟩,CoC.refl _,trivial⟩)
 have hT:tok n l = true:=by simp_all
 obtain ⟨hn0,hn16,hl256,hrow⟩:=jk hT;refine w_8 ?_;refine qcx a67 (a0b n p m) ?_;refine w_7 ?_;refine hcn (fun h1=>?_) (fun h1=>?_)
 · refine w_7 ?_;refine hrr ?_;have he:=alg (mu:=true) (i:=i) (a:=a) (b:=b) hT bqj;exact f9 rfl rfl (by rw [he];exact ⟨CoC.agg ⟨CoP.refl _,bf,trivial⟩,CoC.refl _,trivial⟩)
 have hbe:bt n p m = 0:=by assumption
 obtain ⟨_,_,hpl,hpa,hml,_⟩:=kz hbe;refine ml ?_;refine ah rfl rfl (fun r2=>?_) (fun r2=>?_)
 ·
  have h2:=tz1 r2;(iterate 4 refine k9 (gtf r2) ?_);refine rq rfl rfl rfl rfl rfl ?_ (hp:=r2);refine qy ?_;(iterate 3 refine k9 rfl ?_);refine w_2 ?_;(iterate 4 refine k9 rfl ?_);refine w_2 ?_;(iterate 5 refine k9 rfl ?_);refine w_2 ?_
  (iterate 3 refine k9 rfl ?_);refine w_2 ?_;(iterate 9 refine k9 rfl ?_);refine w_2 ?_;(iterate 10 refine k9 rfl ?_);refine w_9 ?_;refine hrr ?_
  have he:=j0 (mu:=true) (i:=i) (a:=a) (b:=b) hT hbe bdS;exact f9 rfl rfl (by rw [he];exact ⟨CoC.agg ⟨CoP.refl _,bf,trivial⟩,CoC.refl _,trivial⟩)
 have h2:=tz2 r2;(iterate 4 refine qy ?_ (hg:=(gff r2)));refine w_2 ?_;refine ah rfl rfl (fun r3=>?_) (fun r3=>?_)
 ·
  have h3:=tz1 (au r2 r3);(iterate 3 refine k9 (gtf r3) ?_);refine rq rfl rfl rfl rfl rfl ?_ (hp:=r3);refine qy ?_;(iterate 4 refine k9 rfl ?_);refine w_2 ?_;(iterate 5 refine k9 rfl ?_);refine w_2 ?_;(iterate 3 refine k9 rfl ?_);refine w_2 ?_
  (iterate 9 refine k9 rfl ?_);refine w_2 ?_;(iterate 10 refine k9 rfl ?_);refine w_9 ?_;refine hrr ?_
  have he:=j0 (mu:=true) (i:=i) (a:=a) (b:=b) hT hbe bdS;exact f9 rfl rfl (by rw [he];exact ⟨CoC.agg ⟨CoP.refl _,bf,trivial⟩,CoC.refl _,trivial⟩)
 have h3:=tz2 (au r2 r3);(iterate 3 refine qy ?_ (hg:=(gff r3)));refine w_2 ?_;refine ah rfl rfl (fun r4=>?_) (fun r4=>?_)
 ·
  have h4:=tz1 (au r3 r4);(iterate 4 refine k9 (gtf r4) ?_);refine rq rfl rfl rfl rfl rfl ?_ (hp:=r4);refine qy ?_;(iterate 5 refine k9 rfl ?_);refine w_2 ?_;(iterate 3 refine k9 rfl ?_);refine w_2 ?_;(iterate 9 refine k9 rfl ?_);refine w_2 ?_
  (iterate 10 refine k9 rfl ?_);refine w_9 ?_;refine hrr ?_
  have he:=j0 (mu:=true) (i:=i) (a:=a) (b:=b) hT hbe bdS;exact f9 rfl rfl (by rw [he];exact ⟨CoC.agg ⟨CoP.refl _,bf,trivial⟩,CoC.refl _,trivial⟩)
 have h4:=tz2 (au r3 r4);(iterate 4 refine qy ?_ (hg:=(gff r4)));refine w_2 ?_;refine ah rfl rfl (fun r5=>?_) (fun r5=>?_)
 ·
  have h5:=tz1 (au r4 r5);(iterate 5 refine k9 (gtf r5) ?_);refine rq rfl rfl rfl rfl rfl ?_ (hp:=r5);refine qy ?_;(iterate 3 refine k9 rfl ?_);refine w_2 ?_;(iterate 9 refine k9 rfl ?_);refine w_2 ?_;(iterate 10 refine k9 rfl ?_);refine w_9 ?_
  refine hrr ?_;have he:=j0 (mu:=true) (i:=i) (a:=a) (b:=b) hT hbe bdS;exact f9 rfl rfl (by rw [he];exact ⟨CoC.agg ⟨CoP.refl _,bf,trivial⟩,CoC.refl _,trivial⟩)
 have h5:=tz2 (au r4 r5);(iterate 5 refine qy ?_ (hg:=(gff r5)));refine w_2 ?_;refine ah rfl rfl (fun r6=>?_) (fun r6=>?_)
 ·
  have h6:=tz1 (au r5 r6);(iterate 3 refine k9 (gtf r6) ?_);refine rq rfl rfl rfl rfl rfl ?_ (hp:=r6);refine qy ?_;(iterate 9 refine k9 rfl ?_);refine w_2 ?_;(iterate 10 refine k9 rfl ?_);refine w_9 ?_;refine hrr ?_
  have he:=j0 (mu:=true) (i:=i) (a:=a) (b:=b) hT hbe bdS;exact f9 rfl rfl (by rw [he];exact ⟨CoC.agg ⟨CoP.refl _,bf,trivial⟩,CoC.refl _,trivial⟩)
 have h6:=tz2 (au r5 r6);(iterate 3 refine qy ?_ (hg:=(gff r6)));refine w_2 ?_;refine ah rfl rfl (fun r7=>?_) (fun r7=>?_)
 ·
  have h7:=tz1 (au r6 r7);(iterate 3 refine k9 (gtf r7) ?_);(iterate 5 refine k9 rfl ?_);refine k9 (gtf r7) ?_;refine rq rfl rfl rfl rfl rfl ?_ (hp:=r7);refine qy ?_;(iterate 10 refine k9 rfl ?_);refine w_9 ?_;refine hrr ?_
  have he:=j0 (mu:=true) (i:=i) (a:=a) (b:=b) hT hbe bdS;exact f9 rfl rfl (by rw [he];exact ⟨CoC.agg ⟨CoP.refl _,bf,trivial⟩,CoC.refl _,trivial⟩)
 have h7:=tz2 (au r6 r7);(iterate 3 refine qy ?_ (hg:=(gff r7)));refine w_5 ?_;refine qy ?_ (hg:=(gff r7));refine w_2 ?_;refine ah rfl rfl (fun r8=>?_) (fun r8=>?_)
 ·
  have h8:=tz1 (au r7 r8);(iterate 4 refine k9 (gtf r8) ?_);(iterate 5 refine k9 rfl ?_);refine k9 (gtf r8) ?_;refine rq rfl rfl rfl rfl rfl ?_ (hp:=r8);refine w_8 ?_;refine hrr ?_
  have he:=j0 (mu:=true) (i:=i) (a:=a) (b:=b) hT hbe bdS;exact f9 rfl rfl (by rw [he];exact ⟨CoC.agg ⟨CoP.refl _,bf,trivial⟩,CoC.refl _,trivial⟩)
 have h8:=tz2 (au r7 r8);(iterate 4 refine qy ?_ (hg:=(gff r8)));(iterate 5 refine k9 rfl ?_);refine qy ?_ (hg:=(gff r8));refine w_2 ?_;refine ak _ rfl (fun e=>Bool.noConfusion ((a3b r8 rfl).symm.trans e)) (fun _=>?_);refine w_2 ?_
 have hnb:¬ io l p m true i a b:=by
  unfold io;rintro (h | h | h | h | h | h | ⟨h,h2⟩ | ⟨h,h2⟩) <;> first | omega | cases h
 have hap:=a4t (mu:=true) (i:=i) (a:=a) (b:=b) hT hbe hnb;have ha:a.toNat < l.length:=by omega
 have hb:b.toNat < l.length:=by omega
 have hra:=hrow _ ha;have hrb:=hrow _ hb;have hi:i.toNat < m.length:=by omega
 refine gy ?_;refine m9 3 ?_;refine b0h ?_;refine qcx a34 (a2r (l.getD a.toNat default) (l.getD b.toNat default) (m.getD i.toNat default).lhs bqi bqi) ?_;refine w_3 ?_;refine hcv (fun h9=>?_) (fun h9=>?_)
 · refine w_6 ?_;refine hrr ?_;have he:=hap.trans (show mvE n l a.toNat b.toNat (m.getD i.toNat default) = (0,[],1) from if_neg (bmm.1 bqj));exact f9 rfl rfl (by rw [he];exact ⟨CoC.agg ⟨CoP.refl _,bf,trivial⟩,CoC.refl _,trivial⟩)
 refine dy ?_;refine rc rfl rfl rfl rfl rfl rfl (wgx Tryz.func180) (bhn n l (m.getD i.toNat default) a.toNat b.toNat hn0 hn16 hrow bqi ha hb) (⟨CoC.refl _,CoC.refl _,cci bqi,cci bqi,trivial⟩) rfl rfl ?_;refine cq ?_;refine hcd (fun h10=>?_) (fun h10=>?_)
 · refine w_6 ?_;refine hrr ?_;have he:=hap.trans (show mvE n l a.toNat b.toNat (m.getD i.toNat default) = (0,[],3) from (if_pos bqj).trans (if_pos bqi));exact f9 rfl rfl (by rw [he];exact ⟨CoC.agg ⟨CoP.refl _,bf,trivial⟩,CoC.refl _,trivial⟩)
 refine w_7 ?_;refine hrr ?_;have he:=hap.trans (show mvE n l a.toNat b.toNat (m.getD i.toNat default) = (n,av (l ++ [ef (l.getD a.toNat default) (l.getD b.toNat default) ((m.getD i.toNat default).lhs ||| (m.getD i.toNat default).rhs)]),0) from (if_pos bqj).trans (if_neg bqi));exact f9 rfl rfl (by rw [he];exact CoL.refl _)
def b35 (n:Int) (l:List Rw) (p m:List Fd) (i a b:Int):a6 br6 131 [pT n l,pP (fdl p),pP (fdl m), .agg [.raw (.bool false), .raw (.int .i64 i), .raw (.int .i64 a), .raw (.int .i64 b)]] (a8 [pT (ey n l p m false i a b).1 (ey n l p m false i a b).2.1,pI (ey n l p m false i a b).2.2]):=by
 refine hpx (nt:=158) Tryz.func131 ?_;refine sx7 ?_;refine m9 0 ?_;refine m9 1 ?_;refine m9 2 ?_;refine w_6 ?_;refine qcx aef (abt n l) ?_;refine w_2 ?_;refine hcv (fun h0=>?_) (fun h0=>?_)
 · refine w_6 ?_;refine hrr ?_;have he:=ak5 (n:=n) (l:=l) (p:=p) (m:=m) (mu:=false) (i:=i) (a:=a) (b:=b) bqs;exact f9 rfl rfl (by rw [he];exact ⟨CoC.agg ⟨CoP.refl _,bf,trivial⟩,CoC.refl _,trivial⟩)
 have hT:tok n l = true:=by simp_all
 obtain ⟨hn0,hn16,hl256,hrow⟩:=jk hT;refine w_8 ?_;refine qcx a67 (a0b n p m) ?_;refine w_7 ?_;refine hcn (fun h1=>?_) (fun h1=>?_)
 · refine w_7 ?_;refine hrr ?_;have he:=alg (mu:=false) (i:=i) (a:=a) (b:=b) hT bqj;exact f9 rfl rfl (by rw [he];exact ⟨CoC.agg ⟨CoP.refl _,bf,trivial⟩,CoC.refl _,trivial⟩)
 have hbe:bt n p m = 0:=by assumption
 obtain ⟨_,_,hpl,hpa,hml,_⟩:=kz hbe;refine ml ?_;refine ah rfl rfl (fun r2=>?_) (fun r2=>?_)
 ·
  have h2:=tz1 r2;(iterate 4 refine k9 (gtf r2) ?_);refine rq rfl rfl rfl rfl rfl ?_ (hp:=r2);refine qy ?_;(iterate 3 refine k9 rfl ?_);refine w_2 ?_;(iterate 4 refine k9 rfl ?_);refine w_2 ?_;(iterate 5 refine k9 rfl ?_);refine w_2 ?_
  (iterate 3 refine k9 rfl ?_);refine w_2 ?_;(iterate 9 refine k9 rfl ?_);refine w_2 ?_;(iterate 10 refine k9 rfl ?_);refine w_9 ?_;refine hrr ?_
  have he:=j0 (mu:=false) (i:=i) (a:=a) (b:=b) hT hbe bdS;exact f9 rfl rfl (by rw [he];exact ⟨CoC.agg ⟨CoP.refl _,bf,trivial⟩,CoC.refl _,trivial⟩)
 have h2:=tz2 r2;(iterate 4 refine qy ?_ (hg:=(gff r2)));refine w_2 ?_;refine ah rfl rfl (fun r3=>?_) (fun r3=>?_)
 ·
  have h3:=tz1 (au r2 r3);(iterate 3 refine k9 (gtf r3) ?_);refine rq rfl rfl rfl rfl rfl ?_ (hp:=r3);refine qy ?_;(iterate 4 refine k9 rfl ?_);refine w_2 ?_;(iterate 5 refine k9 rfl ?_);refine w_2 ?_;(iterate 3 refine k9 rfl ?_);refine w_2 ?_
  (iterate 9 refine k9 rfl ?_);refine w_2 ?_;(iterate 10 refine k9 rfl ?_);refine w_9 ?_;refine hrr ?_
  have he:=j0 (mu:=false) (i:=i) (a:=a) (b:=b) hT hbe bdS;exact f9 rfl rfl (by rw [he];exact ⟨CoC.agg ⟨CoP.refl _,bf,trivial⟩,CoC.refl _,trivial⟩)
 have h3:=tz2 (au r2 r3);(iterate 3 refine qy ?_ (hg:=(gff r3)));refine w_2 ?_;refine ah rfl rfl (fun r4=>?_) (fun r4=>?_)
 ·
  have h4:=tz1 (au r3 r4);(iterate 4 refine k9 (gtf r4) ?_);refine rq rfl rfl rfl rfl rfl ?_ (hp:=r4);refine qy ?_;(iterate 5 refine k9 rfl ?_);refine w_2 ?_;(iterate 3 refine k9 rfl ?_);refine w_2 ?_;(iterate 9 refine k9 rfl ?_);refine w_2 ?_
  (iterate 10 refine k9 rfl ?_);refine w_9 ?_;refine hrr ?_
  have he:=j0 (mu:=false) (i:=i) (a:=a) (b:=b) hT hbe bdS;exact f9 rfl rfl (by rw [he];exact ⟨CoC.agg ⟨CoP.refl _,bf,trivial⟩,CoC.refl _,trivial⟩)
 have h4:=tz2 (au r3 r4);(iterate 4 refine qy ?_ (hg:=(gff r4)));refine w_2 ?_;refine ah rfl rfl (fun r5=>?_) (fun r5=>?_)
 ·
  have h5:=tz1 (au r4 r5);(iterate 5 refine k9 (gtf r5) ?_);refine rq rfl rfl rfl rfl rfl ?_ (hp:=r5);refine qy ?_;(iterate 3 refine k9 rfl ?_);refine w_2 ?_;(iterate 9 refine k9 rfl ?_);refine w_2 ?_;(iterate 10 refine k9 rfl ?_);refine w_9 ?_
  refine hrr ?_;have he:=j0 (mu:=false) (i:=i) (a:=a) (b:=b) hT hbe bdS;exact f9 rfl rfl (by rw [he];exact ⟨CoC.agg ⟨CoP.refl _,bf,trivial⟩,CoC.refl _,trivial⟩)
 have h5:=tz2 (au r4 r5);(iterate 5 refine qy ?_ (hg:=(gff r5)));refine w_2 ?_;refine ah rfl rfl (fun r6=>?_) (fun r6=>?_)
 ·
  have h6:=tz1 (au r5 r6);(iterate 3 refine k9 (gtf r6) ?_);refine rq rfl rfl rfl rfl rfl ?_ (hp:=r6);refine qy ?_;(iterate 9 refine k9 rfl ?_);refine w_2 ?_;(iterate 10 refine k9 rfl ?_);refine w_9 ?_;refine hrr ?_
  have he:=j0 (mu:=false) (i:=i) (a:=a) (b:=b) hT hbe bdS;exact f9 rfl rfl (by rw [he];exact ⟨CoC.agg ⟨CoP.refl _,bf,trivial⟩,CoC.refl _,trivial⟩)
 have h6:=tz2 (au r5 r6);(iterate 3 refine qy ?_ (hg:=(gff r6)));refine w_2 ?_;refine ah rfl rfl (fun r7=>?_) (fun r7=>?_)
 ·
  have h7:=tz1 (au r6 r7);(iterate 3 refine k9 (gtf r7) ?_);(iterate 5 refine k9 rfl ?_);refine k9 (gtf r7) ?_;refine rq rfl rfl rfl rfl rfl ?_ (hp:=r7);refine qy ?_;(iterate 10 refine k9 rfl ?_);refine w_9 ?_;refine hrr ?_
  have he:=j0 (mu:=false) (i:=i) (a:=a) (b:=b) hT hbe bdS;exact f9 rfl rfl (by rw [he];exact ⟨CoC.agg ⟨CoP.refl _,bf,trivial⟩,CoC.refl _,trivial⟩)
 have h7:=tz2 (au r6 r7);(iterate 3 refine qy ?_ (hg:=(gff r7)));(iterate 5 refine k9 rfl ?_);refine qy ?_ (hg:=(gff r7));refine w_2 ?_;(iterate 4 refine rq rfl rfl rfl rfl (gff (a3b r7 rfl)) ?_);refine w_5 ?_
 refine rq rfl rfl rfl rfl (gff (a3b r7 rfl)) ?_;refine w_2 ?_;refine ak _ rfl (fun r8=>?_) (fun r8=>?_)
 · have h8:=tz1 (au (a3b r7 rfl) r8);refine w_6 ?_;refine hrr ?_;have he:=j0 (mu:=false) (i:=i) (a:=a) (b:=b) hT hbe bdS;exact f9 rfl rfl (by rw [he];exact ⟨CoC.agg ⟨CoP.refl _,bf,trivial⟩,CoC.refl _,trivial⟩)
 have h8:=tz2 (au (a3b r7 rfl) r8);refine w_2 ?_
 have hnb:¬ io l p m false i a b:=by
  unfold io;rintro (h | h | h | h | h | h | ⟨h,h2⟩ | ⟨h,h2⟩) <;> first | omega | cases h
 have hap:=a4t (mu:=false) (i:=i) (a:=a) (b:=b) hT hbe hnb;have ha:a.toNat < l.length:=by omega
 have hb:b.toNat < l.length:=by omega
 have hra:=hrow _ ha;have hrb:=hrow _ hb;have hi:i.toNat < p.length:=by omega
 have hu:inU n (p.getD i.toNat default) = true:=bnh.1 hpa _ (by rw [bmb,bma hi];exact bmz hi);refine gy ?_;refine m9 3 ?_;refine b0h ?_;refine qcx a34 (a2r (l.getD a.toNat default) (l.getD b.toNat default) (p.getD i.toNat default).lhs bqi bqi) ?_;refine w_3 ?_;refine hcv (fun h9=>?_) (fun h9=>?_)
 · refine w_6 ?_;refine hrr ?_;have he:=hap.trans (show fdE n l a.toNat b.toNat (p.getD i.toNat default) = (0,[],1) from if_neg (bmm.1 bqj));exact f9 rfl rfl (by rw [he];exact ⟨CoC.agg ⟨CoP.refl _,bf,trivial⟩,CoC.refl _,trivial⟩)
 refine ja ?_;refine rc rfl rfl rfl rfl rfl rfl (wgx Tryz.func181) (b1r n l (p.getD i.toNat default).rhs a.toNat b.toNat hn0 hn16 hrow bqi ha hb (fun j hj=>a7w hn0 hn16 hu hj)) (⟨CoC.refl _,CoC.refl _,cci bqi,cci bqi,trivial⟩) rfl rfl ?_;refine cq ?_;refine hcd (fun h10=>?_) (fun h10=>?_)
 · refine w_6 ?_;refine hrr ?_;have hx:=bmo (a0y (en l (eqMs (ce l) a.toNat b.toNat (aj (p.getD i.toNat default).rhs)))) (bpn (mf _ _));exact f9 rfl rfl (by exfalso;omega)
 refine w_7 ?_;refine hrr ?_;have he:=hap.trans (show fdE n l a.toNat b.toNat (p.getD i.toNat default) = (n,av (en l (eqMs (ce l) a.toNat b.toNat (aj (p.getD i.toNat default).rhs))),0) from if_pos bqj);exact f9 rfl rfl (by rw [he];exact CoL.refl _)
end
section
open Go.Proofs
def avb (l:List Rw) (hl:∀ i,i < l.length -> (l.getD i default).length <= 17592186044416) (hl2:l.length <= 5864062014805):a6 br6 182 [pR l] (a8 [pR l]) :=
 d4.pure (args:=[pR l]) (l:=[.one (.ref 901 l.length)]) (alo l hl hl2) rfl ⟨rfl,trivial⟩
def ahm (n:Int) (l:List Rw) (p m:List Fd) (s:St) (hck:ckE n l p m = 0) (h:y9 l p m s) :
 a6 br6 131 [pT n l,pP (fdl p),pP (fdl m),s.pc] (a8 [pT (dx n l p m s).1 (dx n l p m s).2.1,pI (dx n l p m s).2.2]):=by
 obtain ⟨mu,i,a,b⟩:=s;obtain ⟨ha,hb,h⟩:=h;obtain ⟨hT,hbe,_⟩:=adk hck;have ha:a < l.length:=ha;have hb:b < l.length:=hb
 have hne:¬ a = b:=by
  rintro rfl
  rcases h with ⟨_,_,h⟩ | ⟨_,_,h⟩
  · rw [show ff l (p.getD i default) a a = false from a5c] at h;cases h
  rw [show fk l (m.getD i default) a a = false from a4z ha] at h;cases h
 rcases h with ⟨h1,h2,_⟩ | ⟨h1,h2,_⟩
 · cases h1
   have h2:i < p.length:=h2
   have e:=a4t (mu:=false) (i:=(i:Int)) (a:=(a:Int)) (b:=(b:Int)) hT hbe (by
    unfold io
    rintro (h | h | h | h | h | h | ⟨h,h3⟩ | ⟨h,h3⟩) <;> first | omega | cases h)
   simp only [bmn] at e;have hh:=b35 n l p m i a b;rw [e] at hh;exact hh
 cases h1;have h2:i < m.length:=h2
 have e:=a4t (mu:=true) (i:=(i:Int)) (a:=(a:Int)) (b:=(b:Int)) hT hbe (by
  unfold io
  rintro (h | h | h | h | h | h | ⟨h,h3⟩ | ⟨h,h3⟩) <;> first | omega | cases h)
 simp only [bmn] at e;have hh:=b0r n l p m i a b;rw [e] at hh;exact hh
end
section
open Go.Proofs
def baj (F:Nat) (n:Int) (l:List Rw) (p m:List Fd) (hF:tok n l = true -> muC l.flatten l < F) (hFb:F <= 4000000000):a6 br6 132 [pT n l,pP (fdl p),pP (fdl m)] (a8 [pP (stl (jf F n l p m).1),pT (jf F n l p m).2.1.1 (jf F n l p m).2.1.2,pI (jf F n l p m).2.2]):=by
 refine hpx (nt:=63) Tryz.func132 ?_;refine sx7 ?_;refine m9 0 ?_;refine qy ?_;refine m9 1 ?_;refine w_6 ?_;refine qcx aef (abt n l) ?_;refine w_2 ?_;refine hcv (fun h0=>?_) (fun h0=>?_)
 · refine w_7 ?_;refine hrr ?_;have hk1:ckE n l p m = 1:=if_neg bqs;have he:=ab3 (F:=F) (n:=n) (l:=l) (p:=p) (m:=m) bqi;exact f9 rfl rfl (by rw [he,hk1];exact ⟨CoC.one (CoP.sl rfl (.inr rfl) (fun _=>rfl) (fun i j hi _=>absurd hi (bmf i))),CoC.agg ⟨CoP.refl _,bf,trivial⟩,CoC.refl _,trivial⟩)
 have hT:tok n l = true:=by simp_all
 refine w_8 ?_;refine qcx a67 (a0b n p m) ?_;refine w_7 ?_;refine hcn (fun h1=>?_) (fun h1=>?_)
 · refine w_8 ?_;refine hrr ?_;have hk1:ckE n l p m = bt n p m:=if_pos hT;have he:=ab3 (F:=F) (n:=n) (l:=l) (p:=p) (m:=m) (by rw [hk1];assumption);exact f9 rfl rfl (by rw [he,hk1];exact ⟨CoC.one (CoP.sl rfl (.inr rfl) (fun _=>rfl) (fun i j hi _=>absurd hi (bmf i))),CoC.agg ⟨CoP.refl _,bf,trivial⟩,CoC.refl _,trivial⟩)
 have hbe:bt n p m = 0:=by assumption
 have hck:ckE n l p m = 0:=(if_pos hT).trans hbe;obtain ⟨hn0,hn16,hpl,hpa,hml,_⟩:=kz hbe;obtain ⟨_,_,hl256,hrow⟩:=jk hT;have hbig:∀ i,i < l.length -> (l.getD i default).length <= 17592186044416:=fun i hi=>by rw [hrow i hi];omega
 refine w_7 ?_;refine qcx aeg (avb l hbig bqi) ?_;refine qy ?_;refine m9 2 ?_;refine w_7 ?_;refine bw 11 900 true 4 129 (lf St.c []) bqo rfl (CoP.sl rfl (.inr rfl) (fun h=>h) (fun i j hi _=>absurd hi (bmf i))) (.inr rfl) rfl ?_;refine a5f ?_;refine ae (ι:=Nat × List Rw × List St) (ka 1 (ka 2 (ka 7 (ka 10 kn)))) (kb 1 km) (fun x=>⟨[(11,some (.v (.one (.ref 900 x.2.2.length))))],[(2,some (.box [.p (.raw (.int .i64 n)), .p (rl x.2.1)])),(900,some (.arr true 4 129 x.2.2.length (lf St.c x.2.2)))]⟩) (fun x=>StI F n l p m x) (fun x=>x.1) ((F,l,[])) (StI.start hT (hF hT)) kk ?_;rintro x hX;have hXu:=hX.u;have hXb:=hX.b;refine w_6 ?_;refine qcx (wgx Tryz.func183) ((ab7 (p:=p) (m:=m) hX.t ▸ bgs n x.2.1 p m hX.t hpl hml)) ?_;refine w_3 ?_;refine m9 3 ?_;refine w_9 ?_;refine hcv (fun h2=>?_) (fun h2=>?_)
 · have hS:=as6 (by simpa [ab7 hX.t] using h2);refine w_9 ?_;refine al 6 rfl rfl rfl ?_;refine hrr ?_;have he:=(w8 hck).trans (hX.fin hS);exact f9 rfl rfl (by rw [he];exact CoL.refl _)
 have hS:=ark (false,0,0,0) (by simpa [ab7 hX.t] using h2);refine w_7 ?_;refine qcx (wgx Tryz.func131) (ahm n x.2.1 p m ((f7 x.2.1 p m).getD (false,0,0,0)) ((if_pos hX.t).trans hbe) (a9i hS)) ?_;refine w_3 ?_;refine m9 4 ?_;refine w_9 ?_;refine hcn (fun h3=>?_) (fun h3=>?_)
 · refine w_8 ?_;refine hrr ?_;have he:=(w8 hck).trans (hX.err hS bqj);exact f9 rfl rfl (by rw [he];exact ⟨CoC.one (CoP.sl rfl (.inr rfl) (fun _=>rfl) (fun i j hi _=>absurd hi (bmf i))),CoC.agg ⟨CoP.refl _,bf,trivial⟩,CoC.refl _,trivial⟩)
 have hnx:=hX.next hpa hS bqj
 refine w_4 ?_;refine m9 5 ?_;refine r9 6 true ?_;refine w_5 ?_;refine ⟨(x.1 - 1,(dx n x.2.1 p m ((f7 x.2.1 p m).getD (false,0,0,0))).2.1,x.2.2 ++ [((f7 x.2.1 p m).getD (false,0,0,0))]), ?_, ?_, ?_⟩
 · exact hnx.2
 · show x.1 - 1 < x.1
   omega
 exact ⟨⟨⟨_,rfl,(bg rfl)⟩,tt⟩,⟨⟨_,rfl,⟨CoP.of_eq (by rw [hnx.1]),CoH.refl _,trivial⟩⟩,⟨_,rfl,(a95 rfl (fun j hj=>by match j,hj with | 0,_=>exact CoP.refl _ | 1,_=>exact CoP.refl _ | 2,_=>exact CoP.refl _ | 3,_=>exact CoP.refl _) rfl)⟩,uu⟩⟩
end
section
def b8p {n:Int} (h0:0 <= n) (h1:n <= 16) {x:Fd}:inU n x = true <-> sub (x.lhs ||| x.rhs) (a7 n):=by
 rw [a4w h0 h1];unfold inU;rw [decide_eq_true_iff]
end
end Go.Hx

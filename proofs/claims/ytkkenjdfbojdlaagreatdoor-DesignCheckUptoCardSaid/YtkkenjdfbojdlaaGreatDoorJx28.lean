/- A part of the proof: X21 X22 X23 Ch19 X24 Ch20 Ch21 X27 Ch23 X28 Ch24. -/
import Derived.Test.YtkkenjdfbojdlaaGreatDoorJx27
set_option linter.all false
set_option maxRecDepth 100000
set_option maxHeartbeats 1000000
namespace Go.Hx
section
open Go.Proofs
def b0f (n:Int) (l:List Rw) (s:AS) (a b:Nat) (h0:0 <= n) (h1:n <= 16) (hrow:∀ i,i < l.length -> (l.getD i default).length = n.toNat) (hl2:l.length <= 4294967296) (ha:a < l.length) (hb:b < l.length) (hs:∀ j,j ∈ aj s -> j < n.toNat):a6 bo6 181 [pT n l,pA s,pI (a:Int),pI (b:Int)] (a7 [pT n (av (dv l (eqMs (ca l) a b (aj s))))]):=by
 refine hpx (nt:=88) Tryz.func181 ?_;refine sx7 ?_;refine m9 0 ?_;refine m9 1 ?_;refine w_5 ?_;refine fc9 ado (ax7 l (fun i hi=>by rw [hrow i hi];omega) bnl) trivial ?_;refine w_8 ?_;refine bg (ka 1 (ka 2 (ka 3 (ka 4 (ka 8 (ka 9 kn)))))) (kb 0 (kb 1 km)) (fun j=>⟨[(10,some (vI j))],[(901,some (.nest 84 3 1 l.length (fun i=>(l.getD i default).length) (mg (eqMs (ca l) a b (eq s j))) none))]⟩) n.toNat kk ?_;rintro j hj;refine w_2 ?_;have hra:=hrow a ha;have hrb:=hrow b hb;refine w_6 ?_;refine hcd (fun h0=>?_) (fun h0=>?_)
 ·
  refine c7 ?_;(iterate 2 refine rq rfl rfl rfl rfl rfl ?_ (hp:=(by (try simp only [bjo,nM]);(repeat' apply And.intro) <;> first | trivial | rfl | omega | exact bje rfl)));refine w_5 ?_;(iterate 2 refine rq rfl rfl rfl rfl rfl ?_ (hp:=(by (try simp only [bjo,nM]);(repeat' apply And.intro) <;> first | trivial | rfl | omega | exact bje rfl)));refine w_9 ?_
  refine qcx v7 (aa2 s (j:Int)) ?_;refine w_2 ?_;refine ah rfl rfl (fun r1=>?_) (fun r1=>?_)
  ·
   have h1:=cj r1;(iterate 3 refine k9 (gtf r1) ?_);refine rq rfl rfl rfl rfl rfl ?_ (hp:=r1);refine w_8 ?_
   exact lpx (j + 1) ⟨tt,⟨⟨_,rfl,(by first | (rw [t7 bnl bnm];exact CoO.refl _) | (rw [nv bnl bnm,sm,uv bnm];exact CoO.refl _) | (rw [nv bnl bnm,sm];exact sc (zi bnl)))⟩,uu⟩⟩
  have h1:=ck r1;(iterate 3 refine qy ?_ (hg:=(gff r1)));refine w_2 ?_;refine ak _ rfl (fun r2=>?_) (fun r2=>?_)
  · have h2:=tz1 (am r1 r2);refine w_6 ?_;exact lpx (j + 1) ⟨tt,⟨⟨_,rfl,(by first | (rw [t7 bnl bnm];exact CoO.refl _) | (rw [nv bnl bnm,sm,uv bnm];exact CoO.refl _) | (rw [nv bnl bnm,sm];exact sc (zi bnl)))⟩,uu⟩⟩
  have h2:=tz2 (am r1 r2);refine w_8 ?_;refine kx (ka 1 (ka 2 (ka 3 (ka 4 (ka 8 (ka 9 (ka 10 kn))))))) (kb 0 (kb 1 km)) ⟨[(13,some (vI (loI ((eqMs (ca l) a b (eq s j)) a j) ((eqMs (ca l) a b (eq s j)) b j)))),(14,some (vI (hiI ((eqMs (ca l) a b (eq s j)) a j) ((eqMs (ca l) a b (eq s j)) b j))))],[(901,some (.nest 84 3 1 l.length (fun i=>(l.getD i default).length) (mg (eqMs (ca l) a b (eq s j))) none))]⟩ ?_ ?_
  ·
   refine w_6 ?_;refine hcd (fun h3=>?_) (fun h3=>?_)
   · refine w_6 ?_;exact ⟨⟨⟨_,rfl,(br (by simp only [bjo];unfold loI;split <;> omega))⟩,⟨_,rfl,(br (by simp only [bjo];unfold hiI;split <;> omega))⟩,tt⟩,uu⟩
   refine d6 ?_;exact ⟨⟨⟨_,rfl,(br (by simp only [bjo];unfold loI;split <;> omega))⟩,⟨_,rfl,(br (by simp only [bjo];unfold hiI;split <;> omega))⟩,tt⟩,uu⟩
  refine w_5 ?_;refine bg (ka 1 (ka 2 (ka 3 (ka 4 (ka 8 (ka 9 (ka 10 (ka 13 (ka 14 kn))))))))) (kb 0 (kb 1 km)) (fun i=>⟨[(15,some (vI i))],[(901,some (.nest 84 3 1 l.length (fun i=>(l.getD i default).length) (mg (me (eqMs (ca l) a b (eq s j)) (hiI ((eqMs (ca l) a b (eq s j)) a j) ((eqMs (ca l) a b (eq s j)) b j)) (loI ((eqMs (ca l) a b (eq s j)) a j) ((eqMs (ca l) a b (eq s j)) b j)) i 0)) none))]⟩) l.length ⟨tt,⟨⟨_,rfl,(by rw [afq];exact CoO.refl _)⟩,trivial⟩⟩ ?_;rintro i hi;refine w_8 ?_;refine hcd (fun h4=>?_) (fun h4=>?_)
  ·
   have hri:=hrow i bnl;refine w_8 ?_;refine bg (ka 1 (ka 2 (ka 3 (ka 4 (ka 8 (ka 9 (ka 10 (ka 13 (ka 14 (ka 15 kn)))))))))) (kb 0 (kb 1 km)) (fun k=>⟨[(16,some (vI k))],[(901,some (.nest 84 3 1 l.length (fun i=>(l.getD i default).length) (mg (me (eqMs (ca l) a b (eq s j)) (hiI ((eqMs (ca l) a b (eq s j)) a j) ((eqMs (ca l) a b (eq s j)) b j)) (loI ((eqMs (ca l) a b (eq s j)) a j) ((eqMs (ca l) a b (eq s j)) b j)) i k)) none))]⟩) n.toNat kk ?_;rintro k hk;refine w_8 ?_;refine hcd (fun h5=>?_) (fun h5=>?_)
   ·
    refine c7 ?_;(iterate 2 refine rq rfl rfl rfl rfl rfl ?_ (hp:=(by (try simp only [bjo,nM]);(repeat' apply And.intro) <;> first | trivial | rfl | omega | exact bje rfl)));refine w_3 ?_;refine hcd (fun h6=>?_) (fun h6=>?_)
    · refine w_7 ?_;refine rq rfl rfl rfl rfl rfl ?_ (hp:=(by (try simp only [bjo,nM]);(repeat' apply And.intro) <;> first | trivial | rfl | omega | exact bje rfl));refine rs rfl rfl rfl rfl rfl ?_ (hp:=(by (try simp only [bjo,nM]);(repeat' apply And.intro) <;> first | trivial | rfl | omega | exact bje rfl));refine w_6 ?_;exact lpx (k + 1) ⟨tt,⟨⟨_,rfl,(by first | exact a86 (aaq bnm) bnp bnp | (rw [acy bnm];exact CoO.refl _))⟩,uu⟩⟩
    refine w_6 ?_;exact lpx (k + 1) ⟨tt,⟨⟨_,rfl,(by first | exact a86 (aaq bnm) bnp bnp | (rw [acy bnm];exact CoO.refl _))⟩,uu⟩⟩
   refine w_6 ?_;exact lpx (i + 1) ⟨tt,⟨⟨_,rfl,(sc (aik bnl))⟩,uu⟩⟩
  refine w_6 ?_;exact lpx (j + 1) ⟨tt,⟨⟨_,rfl,(by first | (rw [t7 bnl bnm];exact CoO.refl _) | (rw [nv bnl bnm,sm,uv bnm];exact CoO.refl _) | (rw [nv bnl bnm,sm];exact sc (zi bnl)))⟩,uu⟩⟩
 obtain rfl:j = n.toNat:=by omega
 refine w_2 ?_;have hme:=ato (s:=s) (n:=n.toNat) bnl hs;refine ao9 901 rfl ?_;refine aq 9 rfl rfl rfl ?_;refine w_4 ?_;refine rc rfl rfl rfl rfl rfl rfl afg (a9a n (dv l (eqMs (ca l) a b (aj s))) (by rw [lr];omega)) (⟨CoC.refl _,CoC.one (by rw [hme];exact axk rfl),trivial⟩) rfl rfl ?_;refine v_2 ?_;exact CoL.refl _
end
section
open Go.Proofs
def bny {p:Prop} (h:p:=by first | omega | (simp only [bjo];omega)):p:=h
def bo4 {p:Prop} (h:p:=by first | exact vg bnl bnm bnl bnl | exact vl (bjp.1 bnm)):p:=h
def bex (n:Int) (l:List Rw) (x:Fd) (a b:Nat) (h0:0 <= n) (h1:n <= 16) (hrow:∀ i,i < l.length -> (l.getD i default).length = n.toNat) (hl2:l.length <= 4294967296) (ha:a < l.length) (hb:b < l.length):a6 bo6 180 [pT n l,x.pc,pI (a:Int),pI (b:Int)] (a7 [pT n (av (l ++ [(dw (l.getD a default) (l.getD b default) (x.lhs ||| x.rhs))]))]):=by
 refine hpx (nt:=51) Tryz.func180 ?_;refine sx7 ?_;refine m9 0 ?_;refine m9 1 ?_;refine m9 2 ?_;refine w_2 ?_;have hra:=hrow a ha;have hrb:=hrow b hb;refine gy ?_;refine m9 3 ?_;refine w_5 ?_;refine r9 4 true ?_;refine w_8 ?_;refine bg (ka 2 (ka 4 (ka 5 (ka 8 (ka 9 kn))))) (kb 0 (kb 1 (kb 2 km))) (fun j=>⟨[(10,some (vI j))],[(3,some (.arr true 1 3 (0 + (l.getD b default).length) (lf zC (mc (l.getD a default) (l.getD b default) (x.lhs ||| x.rhs) j))))]⟩) n.toNat ⟨tt,⟨⟨_,rfl,(alk (fun _ _=>rfl))⟩,trivial⟩⟩ ?_;rintro j hj;refine w_8 ?_;refine hcd (fun h0=>?_) (fun h0=>?_)
 ·
  refine ct ?_;refine rc rfl rfl rfl rfl rfl rfl v7 (aa2 (x.lhs ||| x.rhs) (j:Int)) (⟨cci (by rw [bOr]),CoC.refl _,trivial⟩) rfl rfl ?_;refine c5 ?_;refine hcb (fun h1=>?_) (fun h1=>?_)
  · refine w_9 ?_;(iterate 3 refine rq rfl rfl rfl rfl rfl ?_ (hp:=(by (try simp only [bjo,nM]);(repeat' apply And.intro) <;> first | trivial | rfl | omega | exact bje rfl)));refine rs rfl rfl rfl rfl rfl ?_ (hp:=(by (try simp only [bjo,nM]);(repeat' apply And.intro) <;> first | trivial | rfl | omega | exact bje rfl));refine w_6 ?_;exact lpx (j + 1) ⟨tt,⟨⟨_,rfl,bo4⟩,uu⟩⟩
  refine w_6 ?_;exact lpx (j + 1) ⟨tt,⟨⟨_,rfl,bo4⟩,uu⟩⟩
 obtain rfl:j = n.toNat:=by omega
 refine w_2 ?_;refine aq 9 rfl rfl rfl ?_;refine w_5 ?_;refine fc9 ado (alp l (fun i hi=>by rw [hrow i hi];omega) bnl) trivial ?_;refine qy ?_;refine m9 5 ?_;refine r9 6 true ?_;refine gh rfl rfl rfl rfl rfl rfl afg (a6.eat (hcs:=[.one (.p (.raw (.int .i64 n))), .one (.ref 901 (l ++ [(dw (l.getD a default) (l.getD b default) (x.lhs ||| x.rhs))]).length)]) (o1:=[(901, .arr true 1 84 (l ++ [(dw (l.getD a default) (l.getD b default) (x.lhs ||| x.rhs))]).length (lf rC (l ++ [(dw (l.getD a default) (l.getD b default) (x.lhs ||| x.rhs))])))]) (a9a n (l ++ [(dw (l.getD a default) (l.getD b default) (x.lhs ||| x.rhs))]) bnv) rfl (by (repeat' apply And.intro) <;> first | trivial | rfl) (CoL.refl _)) (⟨CoP.refl _,congrArg (HV.ref 901) bnp,trivial⟩) ⟨⟨_,rfl,(bt rfl (aop bny bny))⟩,trivial⟩ rfl rfl ?_;refine v_3 ?_;exact CoL.refl _
end
section
open Go.Proofs
def bh2 (n:Int) (l:List Rw) (p m:List Fd) (i a b:Nat) (h0:0 <= n) (h1:n <= 16) (hrow:∀ i,i < l.length -> (l.getD i default).length = n.toNat) (ha:a < l.length) (hb:b < l.length) (hi:i < p.length):a6 bo6 228 [pT n l,pP (fdl p),pP (fdl m), .agg [.raw (.bool false), .raw (.int .i64 (i:Int)), .raw (.int .i64 (a:Int)), .raw (.int .i64 (b:Int))]] (a7 [pB (eu l (p.getD i default) a b)]):=by
 refine hpx (nt:=85) Tryz.func228 ?_;refine sx7 ?_;refine m9 0 ?_;refine m9 1 ?_;refine w_3 ?_;have hra:=hrow a ha;have hrb:=hrow b hb;refine aqz ?_;refine w_3 ?_;refine qcx a2b (a1w (l.getD a default) (l.getD b default) (p.getD i default).lhs bnl bnl) ?_;refine qy ?_;refine ah rfl rfl (fun r0=>?_) (fun r0=>?_)
 ·
  have h0:=r0;(iterate 8 refine qy ?_ (hg:=(gtt r0)));refine qcx a2b (a1w (l.getD a default) (l.getD b default) (p.getD i default).rhs bnl bnl) ?_ (hg:=(gtt r0));refine qy ?_ (hg:=(gtt r0));refine w_3 ?_
  exact hx8 rfl rfl rfl (⟨ccb (by first | exact (a3c bnm).symm | simp_all [eu]),trivial⟩)
 have h0:=r0;(iterate 10 refine k9 (gft r0) ?_);refine rq rfl rfl rfl rfl rfl ?_ (hp:=r0);refine w_2 ?_
 exact hx8 rfl rfl rfl (⟨ccb (by first | exact (a3c bnm).symm | simp_all [eu]),trivial⟩)
def bgw (n:Int) (l:List Rw) (p m:List Fd) (i a b:Nat) (h0:0 <= n) (h1:n <= 16) (hrow:∀ i,i < l.length -> (l.getD i default).length = n.toNat) (ha:a < l.length) (hb:b < l.length) (hi:i < m.length):a6 bo6 228 [pT n l,pP (fdl p),pP (fdl m), .agg [.raw (.bool true), .raw (.int .i64 (i:Int)), .raw (.int .i64 (a:Int)), .raw (.int .i64 (b:Int))]] (a7 [pB (a73 l (m.getD i default) a b)]):=by
 refine hpx (nt:=85) Tryz.func228 ?_;refine sx7 ?_;refine m9 0 ?_;refine m9 1 ?_;refine w_3 ?_;have hra:=hrow a ha;have hrb:=hrow b hb;refine aqz ?_;refine qy ?_;refine m9 2 ?_;refine w_9 ?_;refine qcx a2b (a1w (l.getD a default) (l.getD b default) (m.getD i default).lhs bnl bnl) ?_;refine w_2 ?_;refine hcv (fun h0=>?_) (fun h0=>?_)
 · refine v_4 ?_;exact ⟨ccb (by unfold a73;simp_all),trivial⟩
 refine w_3 ?_;refine m9 3 ?_;refine qy ?_;refine r9 4 true ?_;refine w_8 ?_;refine bg (ka 4 (ka 9 (ka 11 (ka 12 kn)))) (kb 0 (kb 2 km)) (fun j=>⟨[(13,some (vI j))],[(3,some (.arr true 1 3 (0 + (l.getD b default).length) (lf zC (mc (l.getD a default) (l.getD b default) (m.getD i default).rhs j))))]⟩) n.toNat ⟨tt,⟨⟨_,rfl,(alk (fun _ _=>rfl))⟩,trivial⟩⟩ ?_;rintro j hj;refine w_8 ?_;refine hcd (fun h1=>?_) (fun h1=>?_)
 ·
  refine w_8 ?_;refine qcx v7 (aa2 (m.getD i default).rhs (j:Int)) ?_;refine c5 ?_;refine hcb (fun h2=>?_) (fun h2=>?_)
  · refine w_5 ?_;(iterate 3 refine rq rfl rfl rfl rfl rfl ?_ (hp:=(by (try simp only [bjo,nM]);(repeat' apply And.intro) <;> first | trivial | rfl | omega | exact bje rfl)));refine rs rfl rfl rfl rfl rfl ?_ (hp:=(by (try simp only [bjo,nM]);(repeat' apply And.intro) <;> first | trivial | rfl | omega | exact bje rfl));refine w_6 ?_;exact lpx (j + 1) ⟨tt,⟨⟨_,rfl,bo4⟩,uu⟩⟩
  refine w_6 ?_;exact lpx (j + 1) ⟨tt,⟨⟨_,rfl,bo4⟩,uu⟩⟩
 obtain rfl:j = n.toNat:=by omega
 refine w_2 ?_;refine aq 12 rfl rfl rfl ?_;refine w_3 ?_;refine rc rfl rfl rfl rfl rfl rfl ab4 (ad4 n l (dw (l.getD a default) (l.getD b default) (m.getD i default).rhs)) (⟨CoC.refl _,aop bny bny,trivial⟩) rfl rfl ?_;refine v_3 ?_;exact ⟨ccb (by unfold a73;simp_all),trivial⟩
end
section
open Go.Proofs
def muK (p:List Fd) (k:Nat):Bool:=decide (p.length <= k)
def ixK (p:List Fd) (k:Nat):Nat:=if p.length <= k then k - p.length else k
def chE (l:List Rw) (p m:List Fd) (s:St):Bool:=if s.1 = true then a73 l (m.getD s.2.1 default) s.2.2.1 s.2.2.2 else eu l (p.getD s.2.1 default) s.2.2.1 s.2.2.2
def cCh (n:Int) (l:List Rw) (p m:List Fd) (k a b:Nat) (hT:tok n l = true) (ha:a < l.length) (hb:b < l.length) (hk:k < p.length + m.length) :
 a6 bo6 228 [pT n l,pP (fdl p),pP (fdl m),St.pc (muK p k,ixK p k,a,b)] (a7 [pB (chE l p m (muK p k,ixK p k,a,b))]):=by
 obtain ⟨h0,h1,h2,h3⟩:=j2 hT;by_cases h:p.length <= k
 · have e1:muK p k = true:=decide_eq_true h
   have e2:ixK p k = k - p.length:=if_pos h;rw [e1,e2];exact bgw n l p m (k - p.length) a b h0 h1 h3 ha hb bnl
 have e1:muK p k = false:=decide_eq_false h;have e2:ixK p k = k:=if_neg h;rw [e1,e2];exact bh2 n l p m k a b h0 h1 h3 ha hb bnl
def j8 (l:List Rw) (p m:List Fd) (k a b:Nat):Bool:=decide (a ≠ b) && chE l p m (muK p k,ixK p k,a,b)
def a00 (l:List Rw) (p m:List Fd):Option St:=(ff (j8 l p m) (p.length + m.length) l.length).map fun x=>(muK p x.1,ixK p x.1,x.2.1,x.2.2)
section
variable {l:List Rw} {p m:List Fd} {k a b:Nat}
def b5n (h:¬ a = b) (h2:chE l p m (muK p k,ixK p k,a,b) = true):j8 l p m k a b = true:=by unfold j8;rw [decide_eq_true h,h2];rfl
def amp (h:a = b):j8 l p m k a b = false:=by unfold j8;rw [decide_eq_false (fun e=>e h)];rfl
def alb (h2:chE l p m (muK p k,ixK p k,a,b) = false):j8 l p m k a b = false:=by unfold j8;rw [h2,bnj]
def b4h (h:ff (j8 l p m) (p.length + m.length) l.length = some (k,a,b)):a00 l p m = some (muK p k,ixK p k,a,b):=by unfold a00;rw [h];rfl
def b3t (h:ff (j8 l p m) (p.length + m.length) l.length = none):a00 l p m = none:=by unfold a00;rw [h];rfl
end
end
section
open Go.Proofs
def bde (n:Int) (l:List Rw) (p m:List Fd) (hT:tok n l = true) (hp:p.length <= 64) (hm:m.length <= 64):a6 bo6 183 [pT n l,pP (fdl p),pP (fdl m)] (a7 [St.pc ((a00 l p m).getD (false,0,0,0)),pB (a00 l p m).isSome]):=by
 refine hpx (nt:=66) Tryz.func183 ?_;refine ce ?_;obtain ⟨hn0,hn16,hl256,hrow⟩:=j2 hT;refine c6 1 rfl fun hn1=>?_;refine c6 2 rfl fun hn2=>?_;refine gy ?_;refine m9 0 ?_;refine m9 1 ?_;refine w_8 ?_;refine ae (ι:=Nat) (ka 1 (ka 2 (ka 3 (ka 6 kn)))) (kb 0 (kb 1 km)) (fun k=>⟨[(8,some (vI k))],[]⟩) (fun k=>k <= p.length + m.length /\ ∀ i',i' < k -> ∀ a',a' < l.length -> ∀ b',b' < l.length -> j8 l p m i' a' b' = false) (fun k=>p.length + m.length - k) (0) (⟨bji _,bm⟩) kk ?_;rintro k ⟨hk,hK⟩;refine ct ?_;refine hcd (fun h0=>?_) (fun h0=>?_)
 ·
  refine w_7 ?_;refine m9 2 ?_;refine w_2 ?_;refine kx (ka 1 (ka 2 (ka 3 (ka 6 (ka 8 (ka 9 kn)))))) (kb 0 (kb 1 km)) ⟨[],[(2,some (.box [.p (.raw (.bool (muK p k))), .p (.raw (.int .i64 (ixK p k:Int))), .p (.raw (.int .i64 0)), .p (.raw (.int .i64 0))]))]⟩ ?_ ?_
  ·
   refine w_7 ?_;refine hcd (fun h1=>?_) (fun h1=>?_)
   · refine w_8 ?_;exact ⟨tt,⟨⟨_,rfl,(by unfold muK ixK;first | (rw [decide_eq_true bnl,if_pos bnl];refine ⟨CoP.refl _,CoP.of_eq (by congr 2;omega),CoP.refl _,CoP.refl _,trivial⟩) | (rw [decide_eq_false bnl,if_neg bnl];exact ⟨CoP.refl _,CoP.refl _,CoP.refl _,CoP.refl _,trivial⟩))⟩,uu⟩⟩
   refine d6 ?_;exact ⟨tt,⟨⟨_,rfl,(by unfold muK ixK;first | (rw [decide_eq_true bnl,if_pos bnl];refine ⟨CoP.refl _,CoP.of_eq (by congr 2;omega),CoP.refl _,CoP.refl _,trivial⟩) | (rw [decide_eq_false bnl,if_neg bnl];exact ⟨CoP.refl _,CoP.refl _,CoP.refl _,CoP.refl _,trivial⟩))⟩,uu⟩⟩
  refine w_6 ?_;refine ae (ι:=Nat × Nat) (ka 1 (ka 2 (ka 3 (ka 6 (ka 8 (ka 9 kn)))))) (kb 0 (kb 1 km)) (fun y=>⟨[],[(2,some (.box [.p (.raw (.bool (muK p k))), .p (.raw (.int .i64 (ixK p k:Int))), .p (.raw (.int .i64 (y.1:Int))), .p (.raw (.int .i64 (y.2:Int)))]))]⟩) (fun y=>y.1 <= l.length /\ ∀ a',a' < y.1 -> ∀ b',b' < l.length -> j8 l p m k a' b' = false) (fun y=>l.length - y.1) ((0,0)) (⟨bji _,bm⟩) kk ?_;rintro y ⟨hy,hA⟩;refine c7 ?_;refine hcd (fun h2=>?_) (fun h2=>?_)
  ·
   refine w_9 ?_;refine ae (ι:=Nat) (ka 1 (ka 2 (ka 3 (ka 6 (ka 8 (ka 9 kn)))))) (kb 0 (kb 1 km)) (fun b=>⟨[],[(2,some (.box [.p (.raw (.bool (muK p k))), .p (.raw (.int .i64 (ixK p k:Int))), .p (.raw (.int .i64 (y.1:Int))), .p (.raw (.int .i64 (b:Int)))]))]⟩) (fun b=>b <= l.length /\ ∀ b',b' < b -> j8 l p m k y.1 b' = false) (fun b=>l.length - b) (0) (⟨bji _,bm⟩) kk ?_;rintro b ⟨hb,hB⟩;refine c7 ?_;refine hcd (fun h3=>?_) (fun h3=>?_)
   ·
    refine ct ?_;refine ah rfl rfl (fun r4=>?_) (fun r4=>?_)
    ·
     have h4:=tz2 (cj r4);(iterate 4 refine qy ?_ (hg:=(gtt r4)));refine qcx (wgx Tryz.func228) (cCh n l p m k y.1 b hT bnl bnl bnl) ?_ (hg:=(gtt r4));refine w_2 ?_;refine ak _ rfl (fun r5=>?_) (fun r5=>?_)
     · have h5:=bn r4 r5;refine w_6 ?_;refine hrr ?_;have he:=b4h (a11 (P:=j8 l p m) (i:=k) (a:=y.1) (b:=b) bnl bnl bnl (b5n bnl bnm) hK hA hB);exact f9 rfl rfl (by rw [he];exact CoL.refl _)
     have h5:=bn r4 r5;refine w_8 ?_;refine lpz (b + 1) kk ?_;exact ⟨by show b + 1 <= _;omega,ax hB (by first | exact amp bnl | exact alb bnm)⟩
    have h4:=tz1 (ck r4);(iterate 5 refine k9 (gft r4) ?_);refine rq rfl rfl rfl rfl rfl ?_ (hp:=r4);refine c7 ?_;refine lpz (b + 1) kk ?_
    exact ⟨by show b + 1 <= _;omega,ax hB (by first | exact amp bnl | exact alb bnm)⟩
   refine w_8 ?_;refine lpz (y.1 + 1,b) kk ?_;exact ⟨by show y.1 + 1 <= _;omega,ax hA (fun b' hb'=>hB b' bnl)⟩
  refine w_6 ?_;refine lpz (k + 1) kk ?_;exact ⟨by show k + 1 <= _;omega,ax hK (fun a' ha'=>hA a' bnl)⟩
 refine w_7 ?_;refine hrr ?_;have he:=b3t (a0v (P:=j8 l p m) (I:=p.length + m.length) (L:=l.length) fun j hj=>hK j bnl);exact f9 rfl rfl (by rw [he];exact CoL.refl _)
end
section
def yx {α:Type} {f g:Nat -> Option α}:∀ {ks:List Nat},(∀ k,k ∈ ks -> f k = g k) -> ks.findSome? f = ks.findSome? g
 | [],_=>rfl
 | k :: ks,h=>by
  have h1:=h k bnp;have h2:=yx (ks:=ks) fun j hj=>h j (by simp [hj]);simp only [List.findSome?_cons,h1,h2]
def aam {p q:Nat -> Bool}:∀ {ks:List Nat},(∀ k,k ∈ ks -> p k = q k) -> ks.find? p = ks.find? q
 | [],_=>rfl
 | k :: ks,h=>by
  have h1:=h k bnp;have h2:=aam (ks:=ks) fun j hj=>h j (by simp [hj]);simp only [List.find?_cons,h1,h2]
def b74 {s t:AS} {i:Nat}:dl (s ||| t) (i:Int) = (dl s (i:Int) || dl t (i:Int)):=by
 by_cases h:i < 32
 · rw [j1 h,j1 h,j1 h,bky]
 rw [zr bnl,zr bnl,zr bnl];rfl
def b5z {a b:Rw} {s t:AS} (hl:a.length = b.length) (h:k8 a b s = true):dw a b t = dw a b (s ||| t):=by
 have h:=of_decide_eq_true h;unfold dw;refine bls fun i hi=>?_;have hi:=bjs.1 hi;rw [b74];by_cases h1:dl s (i:Int) = true
 · have:=h i bnl h1
   rw [h1,Bool.true_or,if_pos rfl];split
   · rfl
   exact this.symm
 rw [bjp.2 h1,Bool.false_or]
def azj (a:Rw) (s:AS):dw a a s = a:=by
 refine pl (p8 a a s) fun j hj=>?_;rw [p8] at hj;unfold dw;rw [bjd,bjz,bku hj];show (if dl s (j:Int) = true then a.getD j default else a.getD j default) = _;split <;> rfl
section
variable {a:Nat} {l:List Rw}
def a3p {x:Fd}:eu l x a a = false:=aag (a21 fun _ _ _=>rfl)
def a30 {x:Fd} (ha:a < l.length):ey l x a a = false:=by
 refine a9u ?_;rw [azj,bke];exact ⟨_,a2f ha,decide_eq_true rfl⟩
def b0t {n:Int} {x:Fd} {b:Nat} (hT:tok n l = true) (ha:a < l.length) (hb:b < l.length):a73 l x a b = ey l x a b:=by
 obtain ⟨_,_,_,h3⟩:=j2 hT;unfold a73 ey;by_cases h:k8 (l.getD a default) (l.getD b default) x.lhs = true
 · rw [b5z (by rw [h3 a ha,h3 b hb]) h]
 rw [bjp.2 h];rfl
def b7r {p m:List Fd} {k b:Nat} (hk:k < p.length):j8 l p m k a b = eu l (p.getD k default) a b:=by
 have e1:muK p k = false:=decide_eq_false bnl;have e2:ixK p k = k:=if_neg bnl;unfold j8;rw [e1,e2];by_cases h:a = b
 · subst h;rw [a3p,decide_eq_false (fun e=>e rfl)];rfl
 rw [decide_eq_true h];rfl
def b6i {n:Int} {p m:List Fd} {k b:Nat} (hT:tok n l = true) (ha:a < l.length) (hb:b < l.length):j8 l p m (p.length + k) a b = ey l (m.getD k default) a b:=by
 have e1:muK p (p.length + k) = true:=decide_eq_true bnl;have e2:ixK p (p.length + k) = k:=(if_pos bnl).trans bnl;unfold j8;rw [e1,e2];by_cases h:a = b
 · subst h;rw [a30 ha,decide_eq_false (fun e=>e rfl)];rfl
 rw [decide_eq_true h,<- b0t hT ha hb];rfl
def aaj {n:Int} {p m:List Fd} (hT:tok n l = true):a00 l p m = dz l p m:=by
 have e1:(List.range p.length).findSome? (fun i=>(List.range l.length).findSome? fun a=>((List.range l.length).find? fun b=>j8 l p m i a b).map fun b=>(i,a,b)) = ff (fun i a b=>eu l (p.getD i default) a b) p.length l.length :=
  yx fun i hi=>yx fun a _=>by rw [aam fun b _=>b7r (bjs.1 hi)]
 have e2:(List.range m.length).findSome? (fun i=>(List.range l.length).findSome? fun a=>((List.range l.length).find? fun b=>j8 l p m (p.length + i) a b).map fun b=>(p.length + i,a,b)) = (ff (fun i a b=>ey l (m.getD i default) a b) m.length l.length).map fun x=>(p.length + x.1,x.2):=by
  unfold ff;rw [List.map_findSome?];refine yx fun i _=>?_;show _ = Option.map _ ((List.range l.length).findSome? _);rw [List.map_findSome?];refine yx fun a ha=>?_;rw [aam fun b hb=>b6i hT (bjs.1 ha) (bjs.1 hb)];show _ = Option.map _ (Option.map _ _);rw [Option.map_map];rfl
 have e:ff (j8 l p m) (p.length + m.length) l.length = (ff (fun i a b=>eu l (p.getD i default) a b) p.length l.length).or ((ff (fun i a b=>ey l (m.getD i default) a b) m.length l.length).map fun x=>(p.length + x.1,x.2)):=by
  rw [<- e1,<- e2];unfold ff;rw [List.range_add,bnk,List.findSome?_map];rfl
 unfold a00 dz;rw [e]
 cases h:ff (fun i a b=>eu l (p.getD i default) a b) p.length l.length with
 | some x =>
  obtain ⟨i,a,b⟩:=x;have hi:=(a49 h).1;show some (muK p i,ixK p i,a,b) = some (false,i,a,b);rw [show muK p i = false from decide_eq_false bnl,show ixK p i = i from if_neg bnl]
 | none =>
  rw [Option.none_or]
  cases ff (fun i a b=>ey l (m.getD i default) a b) m.length l.length with
  | none=>rfl
  | some x =>
   obtain ⟨i,a,b⟩:=x;show some (muK p (p.length + i),ixK p (p.length + i),a,b) = some (true,i,a,b);rw [show muK p (p.length + i) = true from decide_eq_true bnl,show ixK p (p.length + i) = i from (if_pos bnl).trans bnl]
end
end
section
def gp (l:List Rw) (p m:List Fd) (mu:Bool) (i a b:Int):Prop:=a < 0 \/ (l.length:Int) <= a \/ b < 0 \/ (l.length:Int) <= b \/ a = b \/ i < 0 \/ (mu = true /\ (m.length:Int) <= i) \/ (mu = false /\ (p.length:Int) <= i)
instance (l:List Rw) (p m:List Fd) (mu:Bool) (i a b:Int):Decidable (gp l p m mu i a b):=by unfold gp;infer_instance
def bdS {l:List Rw} {p m:List Fd} {mu:Bool} {i a b:Int} (h:gp l p m mu i a b:=by unfold gp;first | exact .inl bnl | exact .inr (.inl bnl) | exact .inr (.inr (.inl bnl)) | exact .inr (.inr (.inr (.inl bnl))) | exact .inr (.inr (.inr (.inr (.inl bnl)))) | exact .inr (.inr (.inr (.inr (.inr (.inl bnl))))) | exact .inr (.inr (.inr (.inr (.inr (.inr (.inl ⟨by first | rfl | assumption | simp_all,by omega⟩)))))) | exact .inr (.inr (.inr (.inr (.inr (.inr (.inr ⟨by first | rfl | assumption | simp_all,by omega⟩))))))):gp l p m mu i a b:=h
def df (n:Int) (l:List Rw) (p m:List Fd) (mu:Bool) (i a b:Int):Int × List Rw × Int :=
 if ckE n l p m = 0 then if gp l p m mu i a b then (0,[],1) else du n l p m (mu,i.toNat,a.toNat,b.toNat) else (0,[],ckE n l p m)
section
variable {n:Int} {l:List Rw} {p m:List Fd} {mu:Bool} {i a b:Int}
def amc (h:tok n l = false):df n l p m mu i a b = (0,[],1):=by
 have e:ckE n l p m = 1:=if_neg (by rw [h];decide);unfold df;rw [e];rfl
def amq (h:tok n l = true) (h2:¬ be n p m = 0):df n l p m mu i a b = (0,[],be n p m):=by
 have e:ckE n l p m = be n p m:=if_pos h;unfold df;rw [e,if_neg h2]
def i9 (h:tok n l = true) (h2:be n p m = 0) (h3:gp l p m mu i a b):df n l p m mu i a b = (0,[],1):=by
 have e:ckE n l p m = be n p m:=if_pos h;unfold df;rw [e,if_pos h2,if_pos h3]
def a3e (h:tok n l = true) (h2:be n p m = 0) (h3:¬ gp l p m mu i a b):df n l p m mu i a b = du n l p m (mu,i.toNat,a.toNat,b.toNat):=by
 have e:ckE n l p m = be n p m:=if_pos h;unfold df;rw [e,if_pos h2,if_neg h3]
end
end
section
open Go.Proofs
def aex:goodFn bo6 131:=wgx Tryz.func131
def aia (n:Int) (l:List Rw) (p m:List Fd) (i a b:Int):a6 bo6 131 [pT n l,pP (fdl p),pP (fdl m), .agg [.raw (.bool true), .raw (.int .i64 i), .raw (.int .i64 a), .raw (.int .i64 b)]] (a7 [pT (df n l p m true i a b).1 (df n l p m true i a b).2.1,pI (df n l p m true i a b).2.2]):=by
 refine hpx (nt:=158) Tryz.func131 ?_;refine sx7 ?_;refine m9 0 ?_;refine m9 1 ?_;refine m9 2 ?_;refine w_6 ?_;refine qcx ade (a9m n l) ?_;refine w_2 ?_;refine hcv (fun h0=>?_) (fun h0=>?_)
 · refine w_6 ?_;refine hrr ?_;have he:=amc (n:=n) (l:=l) (p:=p) (m:=m) (mu:=true) (i:=i) (a:=a) (b:=b) bnx;exact f9 rfl rfl (by rw [he];exact ⟨CoC.agg ⟨CoP.refl _,b9,trivial⟩,CoC.refl _,trivial⟩)
 have hT:tok n l = true:=by simp_all
 obtain ⟨hn0,hn16,hl256,hrow⟩:=j2 hT;refine w_8 ?_;refine qcx a2m (vo n p m) ?_;refine w_7 ?_;refine hcn (fun h1=>?_) (fun h1=>?_)
 · refine w_7 ?_;refine hrr ?_;have he:=amq (mu:=true) (i:=i) (a:=a) (b:=b) hT bnm;exact f9 rfl rfl (by rw [he];exact ⟨CoC.agg ⟨CoP.refl _,b9,trivial⟩,CoC.refl _,trivial⟩)
 have hbe:be n p m = 0:=by assumption
 obtain ⟨_,_,hpl,hpa,hml,_⟩:=ji hbe;refine lb ?_;refine ah rfl rfl (fun r2=>?_) (fun r2=>?_)
 ·
  have h2:=tz1 r2;(iterate 4 refine k9 (gtf r2) ?_);refine rq rfl rfl rfl rfl rfl ?_ (hp:=r2);refine qy ?_;(iterate 3 refine k9 rfl ?_);refine w_2 ?_;(iterate 4 refine k9 rfl ?_);refine w_2 ?_;(iterate 5 refine k9 rfl ?_);refine w_2 ?_
  (iterate 3 refine k9 rfl ?_);refine w_2 ?_;(iterate 9 refine k9 rfl ?_);refine w_2 ?_;(iterate 10 refine k9 rfl ?_);refine w_9 ?_;refine hrr ?_
  have he:=i9 (mu:=true) (i:=i) (a:=a) (b:=b) hT hbe bdS;exact f9 rfl rfl (by rw [he];exact ⟨CoC.agg ⟨CoP.refl _,b9,trivial⟩,CoC.refl _,trivial⟩)
 have h2:=tz2 r2;(iterate 4 refine qy ?_ (hg:=(gff r2)));refine w_2 ?_;refine ah rfl rfl (fun r3=>?_) (fun r3=>?_)
 ·
  have h3:=tz1 (am r2 r3);(iterate 3 refine k9 (gtf r3) ?_);refine rq rfl rfl rfl rfl rfl ?_ (hp:=r3);refine qy ?_;(iterate 4 refine k9 rfl ?_);refine w_2 ?_;(iterate 5 refine k9 rfl ?_);refine w_2 ?_;(iterate 3 refine k9 rfl ?_);refine w_2 ?_
  (iterate 9 refine k9 rfl ?_);refine w_2 ?_;(iterate 10 refine k9 rfl ?_);refine w_9 ?_;refine hrr ?_
  have he:=i9 (mu:=true) (i:=i) (a:=a) (b:=b) hT hbe bdS;exact f9 rfl rfl (by rw [he];exact ⟨CoC.agg ⟨CoP.refl _,b9,trivial⟩,CoC.refl _,trivial⟩)
 have h3:=tz2 (am r2 r3);(iterate 3 refine qy ?_ (hg:=(gff r3)));refine w_2 ?_;refine ah rfl rfl (fun r4=>?_) (fun r4=>?_)
 ·
  have h4:=tz1 (am r3 r4);(iterate 4 refine k9 (gtf r4) ?_);refine rq rfl rfl rfl rfl rfl ?_ (hp:=r4);refine qy ?_;(iterate 5 refine k9 rfl ?_);refine w_2 ?_;(iterate 3 refine k9 rfl ?_);refine w_2 ?_;(iterate 9 refine k9 rfl ?_);refine w_2 ?_
  (iterate 10 refine k9 rfl ?_);refine w_9 ?_;refine hrr ?_
  have he:=i9 (mu:=true) (i:=i) (a:=a) (b:=b) hT hbe bdS;exact f9 rfl rfl (by rw [he];exact ⟨CoC.agg ⟨CoP.refl _,b9,trivial⟩,CoC.refl _,trivial⟩)
 have h4:=tz2 (am r3 r4);(iterate 4 refine qy ?_ (hg:=(gff r4)));refine w_2 ?_;refine ah rfl rfl (fun r5=>?_) (fun r5=>?_)
 ·
  have h5:=tz1 (am r4 r5);(iterate 5 refine k9 (gtf r5) ?_);refine rq rfl rfl rfl rfl rfl ?_ (hp:=r5);refine qy ?_;(iterate 3 refine k9 rfl ?_);refine w_2 ?_;(iterate 9 refine k9 rfl ?_);refine w_2 ?_;(iterate 10 refine k9 rfl ?_);refine w_9 ?_
  refine hrr ?_;have he:=i9 (mu:=true) (i:=i) (a:=a) (b:=b) hT hbe bdS;exact f9 rfl rfl (by rw [he];exact ⟨CoC.agg ⟨CoP.refl _,b9,trivial⟩,CoC.refl _,trivial⟩)
 have h5:=tz2 (am r4 r5);(iterate 5 refine qy ?_ (hg:=(gff r5)));refine w_2 ?_;refine ah rfl rfl (fun r6=>?_) (fun r6=>?_)
 ·
  have h6:=tz1 (am r5 r6);(iterate 3 refine k9 (gtf r6) ?_);refine rq rfl rfl rfl rfl rfl ?_ (hp:=r6);refine qy ?_;(iterate 9 refine k9 rfl ?_);refine w_2 ?_;(iterate 10 refine k9 rfl ?_);refine w_9 ?_;refine hrr ?_
  have he:=i9 (mu:=true) (i:=i) (a:=a) (b:=b) hT hbe bdS;exact f9 rfl rfl (by rw [he];exact ⟨CoC.agg ⟨CoP.refl _,b9,trivial⟩,CoC.refl _,trivial⟩)
 have h6:=tz2 (am r5 r6);(iterate 3 refine qy ?_ (hg:=(gff r6)));refine w_2 ?_;refine ah rfl rfl (fun r7=>?_) (fun r7=>?_)
 ·
  have h7:=tz1 (am r6 r7);(iterate 3 refine k9 (gtf r7) ?_);(iterate 5 refine k9 rfl ?_);refine k9 (gtf r7) ?_;refine rq rfl rfl rfl rfl rfl ?_ (hp:=r7);refine qy ?_;(iterate 10 refine k9 rfl ?_);refine w_9 ?_;refine hrr ?_
  have he:=i9 (mu:=true) (i:=i) (a:=a) (b:=b) hT hbe bdS;exact f9 rfl rfl (by rw [he];exact ⟨CoC.agg ⟨CoP.refl _,b9,trivial⟩,CoC.refl _,trivial⟩)
 have h7:=tz2 (am r6 r7);(iterate 3 refine qy ?_ (hg:=(gff r7)));refine w_5 ?_;refine qy ?_ (hg:=(gff r7));refine w_2 ?_;refine ah rfl rfl (fun r8=>?_) (fun r8=>?_)
 ·
  have h8:=tz1 (am r7 r8);(iterate 4 refine k9 (gtf r8) ?_);(iterate 5 refine k9 rfl ?_);refine k9 (gtf r8) ?_;refine rq rfl rfl rfl rfl rfl ?_ (hp:=r8);refine w_8 ?_;refine hrr ?_
  have he:=i9 (mu:=true) (i:=i) (a:=a) (b:=b) hT hbe bdS;exact f9 rfl rfl (by rw [he];exact ⟨CoC.agg ⟨CoP.refl _,b9,trivial⟩,CoC.refl _,trivial⟩)
 have h8:=tz2 (am r7 r8);(iterate 4 refine qy ?_ (hg:=(gff r8)));(iterate 5 refine k9 rfl ?_);refine qy ?_ (hg:=(gff r8));refine w_2 ?_;refine ak _ rfl (fun e=>Bool.noConfusion ((a28 r8 rfl).symm.trans e)) (fun _=>?_);refine w_2 ?_
 have hnb:¬ gp l p m true i a b:=by
  unfold gp;rintro (h | h | h | h | h | h | ⟨h,h2⟩ | ⟨h,h2⟩) <;> first | omega | cases h
 have hap:=a3e (mu:=true) (i:=i) (a:=a) (b:=b) hT hbe hnb;have ha:a.toNat < l.length:=by omega
 have hb:b.toNat < l.length:=by omega
 have hra:=hrow _ ha;have hrb:=hrow _ hb;have hi:i.toNat < m.length:=by omega
 refine gy ?_;refine m9 3 ?_;refine b0o ?_;refine qcx a2b (a1w (l.getD a.toNat default) (l.getD b.toNat default) (m.getD i.toNat default).lhs bnl bnl) ?_;refine w_3 ?_;refine hcv (fun h9=>?_) (fun h9=>?_)
 · refine w_6 ?_;refine hrr ?_;have he:=hap.trans (show mvE n l a.toNat b.toNat (m.getD i.toNat default) = (0,[],1) from if_neg (bjp.1 bnm));exact f9 rfl rfl (by rw [he];exact ⟨CoC.agg ⟨CoP.refl _,b9,trivial⟩,CoC.refl _,trivial⟩)
 refine fj ?_;refine rc rfl rfl rfl rfl rfl rfl (wgx Tryz.func180) (bex n l (m.getD i.toNat default) a.toNat b.toNat hn0 hn16 hrow bnl ha hb) (⟨CoC.refl _,CoC.refl _,cci bnl,cci bnl,trivial⟩) rfl rfl ?_;refine ct ?_;refine hcd (fun h10=>?_) (fun h10=>?_)
 · refine w_6 ?_;refine hrr ?_;have he:=hap.trans (show mvE n l a.toNat b.toNat (m.getD i.toNat default) = (0,[],3) from (if_pos bnm).trans (if_pos bnl));exact f9 rfl rfl (by rw [he];exact ⟨CoC.agg ⟨CoP.refl _,b9,trivial⟩,CoC.refl _,trivial⟩)
 refine w_7 ?_;refine hrr ?_;have he:=hap.trans (show mvE n l a.toNat b.toNat (m.getD i.toNat default) = (n,av (l ++ [dw (l.getD a.toNat default) (l.getD b.toNat default) ((m.getD i.toNat default).lhs ||| (m.getD i.toNat default).rhs)]),0) from (if_pos bnm).trans (if_neg bnl));exact f9 rfl rfl (by rw [he];exact CoL.refl _)
def ajf (n:Int) (l:List Rw) (p m:List Fd) (i a b:Int):a6 bo6 131 [pT n l,pP (fdl p),pP (fdl m), .agg [.raw (.bool false), .raw (.int .i64 i), .raw (.int .i64 a), .raw (.int .i64 b)]] (a7 [pT (df n l p m false i a b).1 (df n l p m false i a b).2.1,pI (df n l p m false i a b).2.2]):=by
 refine hpx (nt:=158) Tryz.func131 ?_;refine sx7 ?_;refine m9 0 ?_;refine m9 1 ?_;refine m9 2 ?_;refine w_6 ?_;refine qcx ade (a9m n l) ?_;refine w_2 ?_;refine hcv (fun h0=>?_) (fun h0=>?_)
 · refine w_6 ?_;refine hrr ?_;have he:=amc (n:=n) (l:=l) (p:=p) (m:=m) (mu:=false) (i:=i) (a:=a) (b:=b) bnx;exact f9 rfl rfl (by rw [he];exact ⟨CoC.agg ⟨CoP.refl _,b9,trivial⟩,CoC.refl _,trivial⟩)
 have hT:tok n l = true:=by simp_all
 obtain ⟨hn0,hn16,hl256,hrow⟩:=j2 hT;refine w_8 ?_;refine qcx a2m (vo n p m) ?_;refine w_7 ?_;refine hcn (fun h1=>?_) (fun h1=>?_)
 · refine w_7 ?_;refine hrr ?_;have he:=amq (mu:=false) (i:=i) (a:=a) (b:=b) hT bnm;exact f9 rfl rfl (by rw [he];exact ⟨CoC.agg ⟨CoP.refl _,b9,trivial⟩,CoC.refl _,trivial⟩)
 have hbe:be n p m = 0:=by assumption
 obtain ⟨_,_,hpl,hpa,hml,_⟩:=ji hbe;refine lb ?_;refine ah rfl rfl (fun r2=>?_) (fun r2=>?_)
 ·
  have h2:=tz1 r2;(iterate 4 refine k9 (gtf r2) ?_);refine rq rfl rfl rfl rfl rfl ?_ (hp:=r2);refine qy ?_;(iterate 3 refine k9 rfl ?_);refine w_2 ?_;(iterate 4 refine k9 rfl ?_);refine w_2 ?_;(iterate 5 refine k9 rfl ?_);refine w_2 ?_
  (iterate 3 refine k9 rfl ?_);refine w_2 ?_;(iterate 9 refine k9 rfl ?_);refine w_2 ?_;(iterate 10 refine k9 rfl ?_);refine w_9 ?_;refine hrr ?_
  have he:=i9 (mu:=false) (i:=i) (a:=a) (b:=b) hT hbe bdS;exact f9 rfl rfl (by rw [he];exact ⟨CoC.agg ⟨CoP.refl _,b9,trivial⟩,CoC.refl _,trivial⟩)
 have h2:=tz2 r2;(iterate 4 refine qy ?_ (hg:=(gff r2)));refine w_2 ?_;refine ah rfl rfl (fun r3=>?_) (fun r3=>?_)
 ·
  have h3:=tz1 (am r2 r3);(iterate 3 refine k9 (gtf r3) ?_);refine rq rfl rfl rfl rfl rfl ?_ (hp:=r3);refine qy ?_;(iterate 4 refine k9 rfl ?_);refine w_2 ?_;(iterate 5 refine k9 rfl ?_);refine w_2 ?_;(iterate 3 refine k9 rfl ?_);refine w_2 ?_
  (iterate 9 refine k9 rfl ?_);refine w_2 ?_;(iterate 10 refine k9 rfl ?_);refine w_9 ?_;refine hrr ?_
  have he:=i9 (mu:=false) (i:=i) (a:=a) (b:=b) hT hbe bdS;exact f9 rfl rfl (by rw [he];exact ⟨CoC.agg ⟨CoP.refl _,b9,trivial⟩,CoC.refl _,trivial⟩)
 have h3:=tz2 (am r2 r3);(iterate 3 refine qy ?_ (hg:=(gff r3)));refine w_2 ?_;refine ah rfl rfl (fun r4=>?_) (fun r4=>?_)
 ·
  have h4:=tz1 (am r3 r4);(iterate 4 refine k9 (gtf r4) ?_);refine rq rfl rfl rfl rfl rfl ?_ (hp:=r4);refine qy ?_;(iterate 5 refine k9 rfl ?_);refine w_2 ?_;(iterate 3 refine k9 rfl ?_);refine w_2 ?_;(iterate 9 refine k9 rfl ?_);refine w_2 ?_
  (iterate 10 refine k9 rfl ?_);refine w_9 ?_;refine hrr ?_
  have he:=i9 (mu:=false) (i:=i) (a:=a) (b:=b) hT hbe bdS;exact f9 rfl rfl (by rw [he];exact ⟨CoC.agg ⟨CoP.refl _,b9,trivial⟩,CoC.refl _,trivial⟩)
 have h4:=tz2 (am r3 r4);(iterate 4 refine qy ?_ (hg:=(gff r4)));refine w_2 ?_;refine ah rfl rfl (fun r5=>?_) (fun r5=>?_)
 ·
  have h5:=tz1 (am r4 r5);(iterate 5 refine k9 (gtf r5) ?_);refine rq rfl rfl rfl rfl rfl ?_ (hp:=r5);refine qy ?_;(iterate 3 refine k9 rfl ?_);refine w_2 ?_;(iterate 9 refine k9 rfl ?_);refine w_2 ?_;(iterate 10 refine k9 rfl ?_);refine w_9 ?_
  refine hrr ?_;have he:=i9 (mu:=false) (i:=i) (a:=a) (b:=b) hT hbe bdS;exact f9 rfl rfl (by rw [he];exact ⟨CoC.agg ⟨CoP.refl _,b9,trivial⟩,CoC.refl _,trivial⟩)
 have h5:=tz2 (am r4 r5);(iterate 5 refine qy ?_ (hg:=(gff r5)));refine w_2 ?_;refine ah rfl rfl (fun r6=>?_) (fun r6=>?_)
 ·
  have h6:=tz1 (am r5 r6);(iterate 3 refine k9 (gtf r6) ?_);refine rq rfl rfl rfl rfl rfl ?_ (hp:=r6);refine qy ?_;(iterate 9 refine k9 rfl ?_);refine w_2 ?_;(iterate 10 refine k9 rfl ?_);refine w_9 ?_;refine hrr ?_
  have he:=i9 (mu:=false) (i:=i) (a:=a) (b:=b) hT hbe bdS;exact f9 rfl rfl (by rw [he];exact ⟨CoC.agg ⟨CoP.refl _,b9,trivial⟩,CoC.refl _,trivial⟩)
 have h6:=tz2 (am r5 r6);(iterate 3 refine qy ?_ (hg:=(gff r6)));refine w_2 ?_;refine ah rfl rfl (fun r7=>?_) (fun r7=>?_)
 ·
  have h7:=tz1 (am r6 r7);(iterate 3 refine k9 (gtf r7) ?_);(iterate 5 refine k9 rfl ?_);refine k9 (gtf r7) ?_;refine rq rfl rfl rfl rfl rfl ?_ (hp:=r7);refine qy ?_;(iterate 10 refine k9 rfl ?_);refine w_9 ?_;refine hrr ?_
  have he:=i9 (mu:=false) (i:=i) (a:=a) (b:=b) hT hbe bdS;exact f9 rfl rfl (by rw [he];exact ⟨CoC.agg ⟨CoP.refl _,b9,trivial⟩,CoC.refl _,trivial⟩)
 have h7:=tz2 (am r6 r7);(iterate 3 refine qy ?_ (hg:=(gff r7)));(iterate 5 refine k9 rfl ?_);refine qy ?_ (hg:=(gff r7));refine w_2 ?_;(iterate 4 refine rq rfl rfl rfl rfl (gff (a28 r7 rfl)) ?_);refine w_5 ?_
 refine rq rfl rfl rfl rfl (gff (a28 r7 rfl)) ?_;refine w_2 ?_;refine ak _ rfl (fun r8=>?_) (fun r8=>?_)
 · have h8:=tz1 (am (a28 r7 rfl) r8);refine w_6 ?_;refine hrr ?_;have he:=i9 (mu:=false) (i:=i) (a:=a) (b:=b) hT hbe bdS;exact f9 rfl rfl (by rw [he];exact ⟨CoC.agg ⟨CoP.refl _,b9,trivial⟩,CoC.refl _,trivial⟩)
 have h8:=tz2 (am (a28 r7 rfl) r8);refine w_2 ?_
 have hnb:¬ gp l p m false i a b:=by
  unfold gp;rintro (h | h | h | h | h | h | ⟨h,h2⟩ | ⟨h,h2⟩) <;> first | omega | cases h
 have hap:=a3e (mu:=false) (i:=i) (a:=a) (b:=b) hT hbe hnb;have ha:a.toNat < l.length:=by omega
 have hb:b.toNat < l.length:=by omega
 have hra:=hrow _ ha;have hrb:=hrow _ hb;have hi:i.toNat < p.length:=by omega
 have hu:inU n (p.getD i.toNat default) = true:=bkk.1 hpa _ (by rw [bjd,bjc hi];exact bk7 hi);refine gy ?_;refine m9 3 ?_;refine b0o ?_;refine qcx a2b (a1w (l.getD a.toNat default) (l.getD b.toNat default) (p.getD i.toNat default).lhs bnl bnl) ?_;refine w_3 ?_;refine hcv (fun h9=>?_) (fun h9=>?_)
 · refine w_6 ?_;refine hrr ?_;have he:=hap.trans (show fdE n l a.toNat b.toNat (p.getD i.toNat default) = (0,[],1) from if_neg (bjp.1 bnm));exact f9 rfl rfl (by rw [he];exact ⟨CoC.agg ⟨CoP.refl _,b9,trivial⟩,CoC.refl _,trivial⟩)
 refine j9 ?_;refine rc rfl rfl rfl rfl rfl rfl (wgx Tryz.func181) (b0f n l (p.getD i.toNat default).rhs a.toNat b.toNat hn0 hn16 hrow bnl ha hb (fun j hj=>a7x hn0 hn16 hu hj)) (⟨CoC.refl _,CoC.refl _,cci bnl,cci bnl,trivial⟩) rfl rfl ?_;refine ct ?_;refine hcd (fun h10=>?_) (fun h10=>?_)
 · refine w_6 ?_;refine hrr ?_;have hx:=bjr (a0n (dv l (eqMs (ca l) a.toNat b.toNat (aj (p.getD i.toNat default).rhs)))) (bmo (lr _ _));exact f9 rfl rfl (by exfalso;omega)
 refine w_7 ?_;refine hrr ?_;have he:=hap.trans (show fdE n l a.toNat b.toNat (p.getD i.toNat default) = (n,av (dv l (eqMs (ca l) a.toNat b.toNat (aj (p.getD i.toNat default).rhs))),0) from if_pos bnm);exact f9 rfl rfl (by rw [he];exact CoL.refl _)
end
section
open Go.Proofs
def atq (l:List Rw) (hl:∀ i,i < l.length -> (l.getD i default).length <= 17592186044416) (hl2:l.length <= 5864062014805):a6 bo6 182 [pR l] (a7 [pR l]) :=
 d4.pure (args:=[pR l]) (l:=[.one (.ref 901 l.length)]) (alp l hl hl2) rfl ⟨rfl,trivial⟩
def agf (n:Int) (l:List Rw) (p m:List Fd) (s:St) (hck:ckE n l p m = 0) (h:xg l p m s) :
 a6 bo6 131 [pT n l,pP (fdl p),pP (fdl m),s.pc] (a7 [pT (du n l p m s).1 (du n l p m s).2.1,pI (du n l p m s).2.2]):=by
 obtain ⟨mu,i,a,b⟩:=s;obtain ⟨ha,hb,h⟩:=h;obtain ⟨hT,hbe,_⟩:=aba hck;have ha:a < l.length:=ha;have hb:b < l.length:=hb
 have hne:¬ a = b:=by
  rintro rfl
  rcases h with ⟨_,_,h⟩ | ⟨_,_,h⟩
  · rw [show eu l (p.getD i default) a a = false from a3p] at h;cases h
  rw [show ey l (m.getD i default) a a = false from a30 ha] at h;cases h
 rcases h with ⟨h1,h2,_⟩ | ⟨h1,h2,_⟩
 · cases h1
   have h2:i < p.length:=h2
   have e:=a3e (mu:=false) (i:=(i:Int)) (a:=(a:Int)) (b:=(b:Int)) hT hbe (by
    unfold gp
    rintro (h | h | h | h | h | h | ⟨h,h3⟩ | ⟨h,h3⟩) <;> first | omega | cases h)
   simp only [bjo] at e;have hh:=ajf n l p m i a b;rw [e] at hh;exact hh
 cases h1;have h2:i < m.length:=h2
 have e:=a3e (mu:=true) (i:=(i:Int)) (a:=(a:Int)) (b:=(b:Int)) hT hbe (by
  unfold gp
  rintro (h | h | h | h | h | h | ⟨h,h3⟩ | ⟨h,h3⟩) <;> first | omega | cases h)
 simp only [bjo] at e;have hh:=aia n l p m i a b;rw [e] at hh;exact hh
end
section
open Go.Proofs
def b5r (F:Nat) (n:Int) (l:List Rw) (p m:List Fd) (hF:tok n l = true -> muC l.flatten l < F) (hFb:F <= 4000000000):a6 bo6 132 [pT n l,pP (fdl p),pP (fdl m)] (a7 [pP (stl (iz F n l p m).1),pT (iz F n l p m).2.1.1 (iz F n l p m).2.1.2,pI (iz F n l p m).2.2]):=by
 refine hpx (nt:=63) Tryz.func132 ?_;refine sx7 ?_;refine m9 0 ?_;refine qy ?_;refine m9 1 ?_;refine w_6 ?_;refine qcx ade (a9m n l) ?_;refine w_2 ?_;refine hcv (fun h0=>?_) (fun h0=>?_)
 · refine w_7 ?_;refine hrr ?_;have hk1:ckE n l p m = 1:=if_neg bnx;have he:=a96 (F:=F) (n:=n) (l:=l) (p:=p) (m:=m) bnl;exact f9 rfl rfl (by rw [he,hk1];exact ⟨CoC.one (CoP.sl rfl (.inr rfl) (fun _=>rfl) (fun i j hi _=>absurd hi (bjh i))),CoC.agg ⟨CoP.refl _,b9,trivial⟩,CoC.refl _,trivial⟩)
 have hT:tok n l = true:=by simp_all
 refine w_8 ?_;refine qcx a2m (vo n p m) ?_;refine w_7 ?_;refine hcn (fun h1=>?_) (fun h1=>?_)
 · refine w_8 ?_;refine hrr ?_;have hk1:ckE n l p m = be n p m:=if_pos hT;have he:=a96 (F:=F) (n:=n) (l:=l) (p:=p) (m:=m) (by rw [hk1];assumption);exact f9 rfl rfl (by rw [he,hk1];exact ⟨CoC.one (CoP.sl rfl (.inr rfl) (fun _=>rfl) (fun i j hi _=>absurd hi (bjh i))),CoC.agg ⟨CoP.refl _,b9,trivial⟩,CoC.refl _,trivial⟩)
 have hbe:be n p m = 0:=by assumption
 have hck:ckE n l p m = 0:=(if_pos hT).trans hbe;obtain ⟨hn0,hn16,hpl,hpa,hml,_⟩:=ji hbe;obtain ⟨_,_,hl256,hrow⟩:=j2 hT;have hbig:∀ i,i < l.length -> (l.getD i default).length <= 17592186044416:=fun i hi=>by rw [hrow i hi];omega
 refine w_7 ?_;refine qcx ado (atq l hbig bnl) ?_;refine qy ?_;refine m9 2 ?_;refine w_7 ?_;refine cb 11 900 true 4 129 (lf St.c []) bns rfl (CoP.sl rfl (.inr rfl) (fun h=>h) (fun i j hi _=>absurd hi (bjh i))) (.inr rfl) rfl ?_;refine a3j ?_;refine ae (ι:=Nat × List Rw × List St) (ka 1 (ka 2 (ka 7 (ka 10 kn)))) (kb 1 km) (fun x=>⟨[(11,some (.v (.one (.ref 900 x.2.2.length))))],[(2,some (.box [.p (.raw (.int .i64 n)), .p (rl x.2.1)])),(900,some (.arr true 4 129 x.2.2.length (lf St.c x.2.2)))]⟩) (fun x=>StI F n l p m x) (fun x=>x.1) ((F,l,[])) (StI.start hT (hF hT)) kk ?_;rintro x hX;have hXu:=hX.u;have hXb:=hX.b;refine w_6 ?_;refine qcx (wgx Tryz.func183) ((aaj (p:=p) (m:=m) hX.t ▸ bde n x.2.1 p m hX.t hpl hml)) ?_;refine w_3 ?_;refine m9 3 ?_;refine w_9 ?_;refine hcv (fun h2=>?_) (fun h2=>?_)
 · have hS:=aps (by simpa [aaj hX.t] using h2);refine w_9 ?_;refine aq 6 rfl rfl rfl ?_;refine hrr ?_;have he:=(uq hck).trans (hX.fin hS);exact f9 rfl rfl (by rw [he];exact CoL.refl _)
 have hS:=apg (false,0,0,0) (by simpa [aaj hX.t] using h2);refine w_7 ?_;refine qcx aex (agf n x.2.1 p m ((dz x.2.1 p m).getD (false,0,0,0)) ((if_pos hX.t).trans hbe) (a7q hS)) ?_;refine w_3 ?_;refine m9 4 ?_;refine w_9 ?_;refine hcn (fun h3=>?_) (fun h3=>?_)
 · refine w_8 ?_;refine hrr ?_;have he:=(uq hck).trans (hX.err hS bnm);exact f9 rfl rfl (by rw [he];exact ⟨CoC.one (CoP.sl rfl (.inr rfl) (fun _=>rfl) (fun i j hi _=>absurd hi (bjh i))),CoC.agg ⟨CoP.refl _,b9,trivial⟩,CoC.refl _,trivial⟩)
 have hnx:=hX.next hpa hS bnm
 refine w_4 ?_;refine m9 5 ?_;refine r9 6 true ?_;refine w_5 ?_;refine ⟨(x.1 - 1,(du n x.2.1 p m ((dz x.2.1 p m).getD (false,0,0,0))).2.1,x.2.2 ++ [((dz x.2.1 p m).getD (false,0,0,0))]), ?_, ?_, ?_⟩
 · exact hnx.2
 · show x.1 - 1 < x.1
   omega
 exact ⟨⟨⟨_,rfl,(bv rfl)⟩,tt⟩,⟨⟨_,rfl,⟨CoP.of_eq (by rw [hnx.1]),CoH.refl _,trivial⟩⟩,⟨_,rfl,(a83 rfl (fun j hj=>by match j,hj with | 0,_=>exact CoP.refl _ | 1,_=>exact CoP.refl _ | 2,_=>exact CoP.refl _ | 3,_=>exact CoP.refl _) rfl)⟩,uu⟩⟩
end
section
def b87 {n:Int} (h0:0 <= n) (h1:n <= 16) {x:Fd}:inU n x = true <-> sub (x.lhs ||| x.rhs) (a8 n):=by
 rw [a43 h0 h1];unfold inU;rw [decide_eq_true_iff]
end
end Go.Hx

/- A part of the proof: X21 X22 Ch19 Ch20 Ch21 X27 Ch24 Cc1 Cc2 Cc3 Ls1 Cs24. -/
import Derived.Test.YtkkenjdfbojdlaaGreatDoorMx28
set_option linter.all false
set_option maxRecDepth 100000
set_option maxHeartbeats 1000000
namespace Go.Hx
section
open Go.Proofs
def b3k (n:Int) (l:List Rw) (s:AS) (a b:Nat) (h0:0 <= n) (h1:n <= 16) (hrow:∀ i,i < l.length -> (l.getD i default).length = n.toNat) (hl2:l.length <= 4294967296) (ha:a < l.length) (hb:b < l.length) (hs:∀ j,j ∈ al s -> j < n.toNat):a7 btb 181 [pT n l,pA s,pI (a:Int),pI (b:Int)] (aa [pT n (b5 (ez l (eqMs (cn l) a b (al s))))]):=by
 refine hpx (nt:=88) Tryz.func181 ?_;refine sx7 ?_;refine m9 0 ?_;refine m9 1 ?_;refine w_5 ?_;refine fc9 (wgx Tryz.func182) (ayk l (fun i hi=>by rw [hrow i hi];omega) bsq) trivial ?_;refine w_8 ?_;refine bp (ka 1 (ka 2 (ka 3 (ka 4 (ka 8 (ka 9 kn)))))) (kb 0 (kb 1 km)) (fun j=>⟨[(10,some (vI j))],[(901,some (.nest 84 3 1 l.length (fun i=>(l.getD i default).length) (mg (eqMs (cn l) a b (fq s j))) none))]⟩) n.toNat kk ?_;rintro j hj;refine w_2 ?_;have hra:=hrow a ha;have hrb:=hrow b hb;refine w_6 ?_;refine hcd (fun h0=>?_) (fun h0=>?_)
 ·
  refine d5 ?_;(iterate 2 refine rq rfl rfl rfl rfl rfl ?_ (hp:=(by (try simp only [bop,nM]);(repeat' apply And.intro) <;> first | trivial | rfl | omega | exact bo8 rfl)));refine w_5 ?_;(iterate 2 refine rq rfl rfl rfl rfl rfl ?_ (hp:=(by (try simp only [bop,nM]);(repeat' apply And.intro) <;> first | trivial | rfl | omega | exact bo8 rfl)));refine w_9 ?_
  refine qcx a0h (agk s (j:Int)) ?_;refine w_2 ?_;refine ai rfl rfl (fun r1=>?_) (fun r1=>?_)
  ·
   have h1:=ci r1;(iterate 3 refine k9 (gtf r1) ?_);refine w_9 ?_
   exact lpx (j + 1) ⟨tt,⟨⟨_,rfl,(by first | (rw [vn bsq bsr];exact CoO.refl _) | (rw [qo bsq bsr,vh,xf bsr];exact CoO.refl _) | (rw [qo bsq bsr,vh];exact uo (a1b bsq)))⟩,uu⟩⟩
  have h1:=cj r1;(iterate 3 refine qy ?_ (hg:=(gff r1)));refine w_2 ?_;refine am _ rfl (fun r2=>?_) (fun r2=>?_)
  · have h2:=tz1 (aq r1 r2);refine w_6 ?_;exact lpx (j + 1) ⟨tt,⟨⟨_,rfl,(by first | (rw [vn bsq bsr];exact CoO.refl _) | (rw [qo bsq bsr,vh,xf bsr];exact CoO.refl _) | (rw [qo bsq bsr,vh];exact uo (a1b bsq)))⟩,uu⟩⟩
  have h2:=tz2 (aq r1 r2);refine w_8 ?_;refine nc (ka 1 (ka 2 (ka 3 (ka 4 (ka 8 (ka 9 (ka 10 kn))))))) (kb 0 (kb 1 km)) ⟨[(13,some (vI (loI ((eqMs (cn l) a b (fq s j)) a j) ((eqMs (cn l) a b (fq s j)) b j)))),(14,some (vI (hiI ((eqMs (cn l) a b (fq s j)) a j) ((eqMs (cn l) a b (fq s j)) b j))))],[(901,some (.nest 84 3 1 l.length (fun i=>(l.getD i default).length) (mg (eqMs (cn l) a b (fq s j))) none))]⟩ ?_ ?_
  ·
   refine w_6 ?_;refine hcd (fun h3=>?_) (fun h3=>?_)
   · refine w_6 ?_;exact ⟨⟨⟨_,rfl,(bz (by simp only [bop];unfold loI;split <;> omega))⟩,⟨_,rfl,(bz (by simp only [bop];unfold hiI;split <;> omega))⟩,tt⟩,uu⟩
   refine dp ?_;exact ⟨⟨⟨_,rfl,(bz (by simp only [bop];unfold loI;split <;> omega))⟩,⟨_,rfl,(bz (by simp only [bop];unfold hiI;split <;> omega))⟩,tt⟩,uu⟩
  refine w_5 ?_;refine bp (ka 1 (ka 2 (ka 3 (ka 4 (ka 8 (ka 9 (ka 10 (ka 13 (ka 14 kn))))))))) (kb 0 (kb 1 km)) (fun i=>⟨[(15,some (vI i))],[(901,some (.nest 84 3 1 l.length (fun i=>(l.getD i default).length) (mg (nk (eqMs (cn l) a b (fq s j)) (hiI ((eqMs (cn l) a b (fq s j)) a j) ((eqMs (cn l) a b (fq s j)) b j)) (loI ((eqMs (cn l) a b (fq s j)) a j) ((eqMs (cn l) a b (fq s j)) b j)) i 0)) none))]⟩) l.length ⟨tt,⟨⟨_,rfl,(by rw [ajc];exact CoO.refl _)⟩,trivial⟩⟩ ?_;rintro i hi;refine w_8 ?_;refine hcd (fun h4=>?_) (fun h4=>?_)
  ·
   have hri:=hrow i bsq;refine w_8 ?_;refine bp (ka 1 (ka 2 (ka 3 (ka 4 (ka 8 (ka 9 (ka 10 (ka 13 (ka 14 (ka 15 kn)))))))))) (kb 0 (kb 1 km)) (fun k=>⟨[(16,some (vI k))],[(901,some (.nest 84 3 1 l.length (fun i=>(l.getD i default).length) (mg (nk (eqMs (cn l) a b (fq s j)) (hiI ((eqMs (cn l) a b (fq s j)) a j) ((eqMs (cn l) a b (fq s j)) b j)) (loI ((eqMs (cn l) a b (fq s j)) a j) ((eqMs (cn l) a b (fq s j)) b j)) i k)) none))]⟩) n.toNat kk ?_;rintro k hk;refine w_8 ?_;refine hcd (fun h5=>?_) (fun h5=>?_)
   ·
    refine d5 ?_;(iterate 2 refine rq rfl rfl rfl rfl rfl ?_ (hp:=(by (try simp only [bop,nM]);(repeat' apply And.intro) <;> first | trivial | rfl | omega | exact bo8 rfl)));refine w_3 ?_;refine hcd (fun h6=>?_) (fun h6=>?_)
    · refine w_7 ?_;refine rq rfl rfl rfl rfl rfl ?_ (hp:=(by (try simp only [bop,nM]);(repeat' apply And.intro) <;> first | trivial | rfl | omega | exact bo8 rfl));refine rs rfl rfl rfl rfl rfl ?_ (hp:=(by (try simp only [bop,nM]);(repeat' apply And.intro) <;> first | trivial | rfl | omega | exact bo8 rfl));refine w_6 ?_;exact lpx (k + 1) ⟨tt,⟨⟨_,rfl,(by first | exact a9w (aeq bsr) bst bst | (rw [af5 bsr];exact CoO.refl _))⟩,uu⟩⟩
    refine w_6 ?_;exact lpx (k + 1) ⟨tt,⟨⟨_,rfl,(by first | exact a9w (aeq bsr) bst bst | (rw [af5 bsr];exact CoO.refl _))⟩,uu⟩⟩
   refine w_6 ?_;exact lpx (i + 1) ⟨tt,⟨⟨_,rfl,(uo (aly bsq))⟩,uu⟩⟩
  refine w_6 ?_;exact lpx (j + 1) ⟨tt,⟨⟨_,rfl,(by first | (rw [vn bsq bsr];exact CoO.refl _) | (rw [qo bsq bsr,vh,xf bsr];exact CoO.refl _) | (rw [qo bsq bsr,vh];exact uo (a1b bsq)))⟩,uu⟩⟩
 obtain rfl:j = n.toNat:=by omega
 refine w_2 ?_;have hme:=az5 (s:=s) (n:=n.toNat) bsq hs;refine asa 901 rfl ?_;refine b6 9 rfl rfl rfl ?_;refine w_4 ?_;refine rc rfl rfl rfl rfl rfl rfl ahf (abz n (ez l (eqMs (cn l) a b (al s))) (by rw [nb];omega)) (⟨CoC.refl _,CoC.one (by rw [hme];exact b4m rfl),trivial⟩) rfl rfl ?_;refine v_2 ?_;exact CoL.refl _
end
section
open Go.Proofs
def bkp (n:Int) (l:List Rw) (x:Fd) (a b:Nat) (h0:0 <= n) (h1:n <= 16) (hrow:∀ i,i < l.length -> (l.getD i default).length = n.toNat) (hl2:l.length <= 4294967296) (ha:a < l.length) (hb:b < l.length):a7 btb 180 [pT n l,x.pc,pI (a:Int),pI (b:Int)] (aa [pT n (b5 (l ++ [(er (l.getD a default) (l.getD b default) (x.lhs ||| x.rhs))]))]):=by
 refine hpx (nt:=51) Tryz.func180 ?_;refine sx7 ?_;refine m9 0 ?_;refine m9 1 ?_;refine m9 2 ?_;refine w_2 ?_;have hra:=hrow a ha;have hrb:=hrow b hb;refine gy ?_;refine m9 3 ?_;refine w_5 ?_;refine r9 4 true ?_;refine w_8 ?_;refine bp (ka 2 (ka 4 (ka 5 (ka 8 (ka 9 kn))))) (kb 0 (kb 1 (kb 2 km))) (fun j=>⟨[(10,some (vI j))],[(3,some (.arr true 1 3 (0 + (l.getD b default).length) (lf zC (ow (l.getD a default) (l.getD b default) (x.lhs ||| x.rhs) j))))]⟩) n.toNat ⟨tt,⟨⟨_,rfl,(b5o (fun _ _=>rfl))⟩,trivial⟩⟩ ?_;rintro j hj;refine w_8 ?_;refine hcd (fun h0=>?_) (fun h0=>?_)
 ·
  refine dl ?_;refine rc rfl rfl rfl rfl rfl rfl a0h (agk (x.lhs ||| x.rhs) (j:Int)) (⟨cci (by rw [bOr]),CoC.refl _,trivial⟩) rfl rfl ?_;refine cu ?_;refine hcb (fun h1=>?_) (fun h1=>?_)
  · refine w_9 ?_;(iterate 3 refine rq rfl rfl rfl rfl rfl ?_ (hp:=(by (try simp only [bop,nM]);(repeat' apply And.intro) <;> first | trivial | rfl | omega | exact bo8 rfl)));refine rs rfl rfl rfl rfl rfl ?_ (hp:=(by (try simp only [bop,nM]);(repeat' apply And.intro) <;> first | trivial | rfl | omega | exact bo8 rfl));refine w_6 ?_;exact lpx (j + 1) ⟨tt,⟨⟨_,rfl,(by first | exact a5s bsq bsr bsq bsq | exact a6g (bol.1 bsr))⟩,uu⟩⟩
  refine w_6 ?_;exact lpx (j + 1) ⟨tt,⟨⟨_,rfl,(by first | exact a5s bsq bsr bsq bsq | exact a6g (bol.1 bsr))⟩,uu⟩⟩
 obtain rfl:j = n.toNat:=by omega
 refine w_2 ?_;refine b6 9 rfl rfl rfl ?_;refine w_5 ?_;refine fc9 (wgx Tryz.func182) (b2h l (fun i hi=>by rw [hrow i hi];omega) bsq) trivial ?_;refine qy ?_;refine m9 5 ?_;refine r9 6 true ?_;refine ik rfl rfl rfl rfl rfl rfl ahf (a7.eat (hcs:=[.one (.p (.raw (.int .i64 n))), .one (.ref 901 (l ++ [(er (l.getD a default) (l.getD b default) (x.lhs ||| x.rhs))]).length)]) (o1:=[(901, .arr true 1 84 (l ++ [(er (l.getD a default) (l.getD b default) (x.lhs ||| x.rhs))]).length (lf rC (l ++ [(er (l.getD a default) (l.getD b default) (x.lhs ||| x.rhs))])))]) (abz n (l ++ [(er (l.getD a default) (l.getD b default) (x.lhs ||| x.rhs))]) bt3) rfl (by (repeat' apply And.intro) <;> first | trivial | rfl) (CoL.refl _)) (⟨CoP.refl _,congrArg (HV.ref 901) bst,trivial⟩) ⟨⟨_,rfl,(bu rfl (bac (by first | omega | (simp only [bop];omega)) (by first | omega | (simp only [bop];omega))))⟩,trivial⟩ rfl rfl ?_;refine v_3 ?_;exact CoL.refl _
end
section
open Go.Proofs
def muK (p:List Fd) (k:Nat):Bool:=decide (p.length <= k)
def ixK (p:List Fd) (k:Nat):Nat:=if p.length <= k then k - p.length else k
def chE (l:List Rw) (p m:List Fd) (s:St):Bool:=if s.1 = true then bjv l (m.getD s.2.1 default) s.2.2.1 s.2.2.2 else j3 l (p.getD s.2.1 default) s.2.2.1 s.2.2.2
def bkz (l:List Rw) (p m:List Fd) (k a b:Nat):Bool:=decide (a ≠ b) && chE l p m (muK p k,ixK p k,a,b)
def bn7 (l:List Rw) (p m:List Fd):Option St:=(ol (bkz l p m) (p.length + m.length) l.length).map fun x=>(muK p x.1,ixK p x.1,x.2.1,x.2.2)
section
variable {l:List Rw} {p m:List Fd} {k a b:Nat}
end
end
section
def xc {s t:AS} {i:Nat}:bw (s ||| t) (i:Int) = (bw s (i:Int) || bw t (i:Int)):=by
 by_cases h:i < 32
 · rw [cb h,cb h,cb h,bpj]
 rw [zb bsq,zb bsq,zb bsq];rfl
def b2m (a:Rw) (s:AS):er a a s = a:=by
 refine sg (nq a a s) fun j hj=>?_;rw [nq] at hj;unfold er;rw [bo7,boy,bpu hj];show (if bw s (j:Int) = true then a.getD j default else a.getD j default) = _;split <;> rfl
def avt {l:List Rw} {x:Fd} {a:Nat}:j3 l x a a = false:=acs (a4c fun _ _ _=>rfl)
def avv {l:List Rw} {x:Fd} {a:Nat} (ha:a < l.length):j4 l x a a = false:=by
 refine acm ?_;rw [b2m,bp4];exact ⟨_,a40 ha,decide_eq_true rfl⟩
end
section
def jm (l:List Rw) (p m:List Fd) (mu:Bool) (i a b:Int):Prop:=a < 0 \/ (l.length:Int) <= a \/ b < 0 \/ (l.length:Int) <= b \/ a = b \/ i < 0 \/ (mu = true /\ (m.length:Int) <= i) \/ (mu = false /\ (p.length:Int) <= i)
instance (l:List Rw) (p m:List Fd) (mu:Bool) (i a b:Int):Decidable (jm l p m mu i a b):=by unfold jm;infer_instance
def bdS {l:List Rw} {p m:List Fd} {mu:Bool} {i a b:Int} (h:jm l p m mu i a b:=by unfold jm;first | exact .inl bsq | exact .inr (.inl bsq) | exact .inr (.inr (.inl bsq)) | exact .inr (.inr (.inr (.inl bsq))) | exact .inr (.inr (.inr (.inr (.inl bsq)))) | exact .inr (.inr (.inr (.inr (.inr (.inl bsq))))) | exact .inr (.inr (.inr (.inr (.inr (.inr (.inl ⟨by first | rfl | assumption | simp_all,by omega⟩)))))) | exact .inr (.inr (.inr (.inr (.inr (.inr (.inr ⟨by first | rfl | assumption | simp_all,by omega⟩))))))):jm l p m mu i a b:=h
def dv (n:Int) (l:List Rw) (p m:List Fd) (mu:Bool) (i a b:Int):Int × List Rw × Int :=
 if ckE n l p m = 0 then if jm l p m mu i a b then (0,[],1) else fu n l p m (mu,i.toNat,a.toNat,b.toNat) else (0,[],ckE n l p m)
section
variable {n:Int} {l:List Rw} {p m:List Fd} {mu:Bool} {i a b:Int}
def aq9 (h:tok n l = false):dv n l p m mu i a b = (0,[],1):=by
 have e:ckE n l p m = 1:=if_neg (by rw [h];decide);unfold dv;rw [e];rfl
def ap0 (h:tok n l = true) (h2:¬ be n p m = 0):dv n l p m mu i a b = (0,[],be n p m):=by
 have e:ckE n l p m = be n p m:=if_pos h;unfold dv;rw [e,if_neg h2]
def jh (h:tok n l = true) (h2:be n p m = 0) (h3:jm l p m mu i a b):dv n l p m mu i a b = (0,[],1):=by
 have e:ckE n l p m = be n p m:=if_pos h;unfold dv;rw [e,if_pos h2,if_pos h3]
def akx (h:tok n l = true) (h2:be n p m = 0) (h3:¬ jm l p m mu i a b):dv n l p m mu i a b = fu n l p m (mu,i.toNat,a.toNat,b.toNat):=by
 have e:ckE n l p m = be n p m:=if_pos h;unfold dv;rw [e,if_pos h2,if_neg h3]
end
end
section
open Go.Proofs
def b4d (n:Int) (l:List Rw) (p m:List Fd) (i a b:Int):a7 btb 131 [pT n l,pP (fdl p),pP (fdl m), .agg [.raw (.bool true), .raw (.int .i64 i), .raw (.int .i64 a), .raw (.int .i64 b)]] (aa [pT (dv n l p m true i a b).1 (dv n l p m true i a b).2.1,pI (dv n l p m true i a b).2.2]):=by
 refine hpx (nt:=158) Tryz.func131 ?_;refine sx7 ?_;refine m9 0 ?_;refine m9 1 ?_;refine m9 2 ?_;refine w_6 ?_;refine qcx (wgx Tryz.func178) (alu n l) ?_;refine w_2 ?_;refine hcv (fun h0=>?_) (fun h0=>?_)
 · refine w_6 ?_;refine hrr ?_;have he:=aq9 (n:=n) (l:=l) (p:=p) (m:=m) (mu:=true) (i:=i) (a:=a) (b:=b) bt5;exact f9 rfl rfl (by rw [he];exact ⟨CoC.agg ⟨CoP.refl _,bg,trivial⟩,CoC.refl _,trivial⟩)
 have hT:tok n l = true:=by simp_all
 obtain ⟨hn0,hn16,hl256,hrow⟩:=om hT;refine w_8 ?_;refine qcx adl (a6a n p m) ?_;refine w_7 ?_;refine hcn (fun h1=>?_) (fun h1=>?_)
 · refine w_7 ?_;refine hrr ?_;have he:=ap0 (mu:=true) (i:=i) (a:=a) (b:=b) hT bsr;exact f9 rfl rfl (by rw [he];exact ⟨CoC.agg ⟨CoP.refl _,bg,trivial⟩,CoC.refl _,trivial⟩)
 have hbe:be n p m = 0:=by assumption
 obtain ⟨_,_,hpl,hpa,hml,_⟩:=m7 hbe;refine o8 ?_;refine ai rfl rfl (fun r2=>?_) (fun r2=>?_)
 ·
  have h2:=tz1 r2;(iterate 4 refine k9 (gtf r2) ?_);refine w_2 ?_;(iterate 3 refine k9 rfl ?_);refine w_2 ?_;(iterate 4 refine k9 rfl ?_);refine w_2 ?_;(iterate 5 refine k9 rfl ?_);refine w_2 ?_;(iterate 3 refine k9 rfl ?_);refine w_2 ?_
  (iterate 9 refine k9 rfl ?_);refine w_2 ?_;(iterate 10 refine k9 rfl ?_);refine w_9 ?_;refine hrr ?_
  have he:=jh (mu:=true) (i:=i) (a:=a) (b:=b) hT hbe bdS;exact f9 rfl rfl (by rw [he];exact ⟨CoC.agg ⟨CoP.refl _,bg,trivial⟩,CoC.refl _,trivial⟩)
 have h2:=tz2 r2;(iterate 4 refine qy ?_ (hg:=(gff r2)));refine w_2 ?_;refine ai rfl rfl (fun r3=>?_) (fun r3=>?_)
 ·
  have h3:=tz1 (aq r2 r3);(iterate 3 refine k9 (gtf r3) ?_);refine w_2 ?_;(iterate 4 refine k9 rfl ?_);refine w_2 ?_;(iterate 5 refine k9 rfl ?_);refine w_2 ?_;(iterate 3 refine k9 rfl ?_);refine w_2 ?_;(iterate 9 refine k9 rfl ?_);refine w_2 ?_
  (iterate 10 refine k9 rfl ?_);refine w_9 ?_;refine hrr ?_
  have he:=jh (mu:=true) (i:=i) (a:=a) (b:=b) hT hbe bdS;exact f9 rfl rfl (by rw [he];exact ⟨CoC.agg ⟨CoP.refl _,bg,trivial⟩,CoC.refl _,trivial⟩)
 have h3:=tz2 (aq r2 r3);(iterate 3 refine qy ?_ (hg:=(gff r3)));refine w_2 ?_;refine ai rfl rfl (fun r4=>?_) (fun r4=>?_)
 ·
  have h4:=tz1 (aq r3 r4);(iterate 4 refine k9 (gtf r4) ?_);refine w_2 ?_;(iterate 5 refine k9 rfl ?_);refine w_2 ?_;(iterate 3 refine k9 rfl ?_);refine w_2 ?_;(iterate 9 refine k9 rfl ?_);refine w_2 ?_;(iterate 10 refine k9 rfl ?_)
  refine w_9 ?_;refine hrr ?_;have he:=jh (mu:=true) (i:=i) (a:=a) (b:=b) hT hbe bdS;exact f9 rfl rfl (by rw [he];exact ⟨CoC.agg ⟨CoP.refl _,bg,trivial⟩,CoC.refl _,trivial⟩)
 have h4:=tz2 (aq r3 r4);(iterate 4 refine qy ?_ (hg:=(gff r4)));refine w_2 ?_;refine ai rfl rfl (fun r5=>?_) (fun r5=>?_)
 ·
  have h5:=tz1 (aq r4 r5);(iterate 5 refine k9 (gtf r5) ?_);refine w_2 ?_;(iterate 3 refine k9 rfl ?_);refine w_2 ?_;(iterate 9 refine k9 rfl ?_);refine w_2 ?_;(iterate 10 refine k9 rfl ?_);refine w_9 ?_;refine hrr ?_
  have he:=jh (mu:=true) (i:=i) (a:=a) (b:=b) hT hbe bdS;exact f9 rfl rfl (by rw [he];exact ⟨CoC.agg ⟨CoP.refl _,bg,trivial⟩,CoC.refl _,trivial⟩)
 have h5:=tz2 (aq r4 r5);(iterate 5 refine qy ?_ (hg:=(gff r5)));refine w_2 ?_;refine ai rfl rfl (fun r6=>?_) (fun r6=>?_)
 ·
  have h6:=tz1 (aq r5 r6);(iterate 3 refine k9 (gtf r6) ?_);refine w_2 ?_;(iterate 9 refine k9 rfl ?_);refine w_2 ?_;(iterate 10 refine k9 rfl ?_);refine w_9 ?_;refine hrr ?_
  have he:=jh (mu:=true) (i:=i) (a:=a) (b:=b) hT hbe bdS;exact f9 rfl rfl (by rw [he];exact ⟨CoC.agg ⟨CoP.refl _,bg,trivial⟩,CoC.refl _,trivial⟩)
 have h6:=tz2 (aq r5 r6);(iterate 3 refine qy ?_ (hg:=(gff r6)));refine w_2 ?_;refine ai rfl rfl (fun r7=>?_) (fun r7=>?_)
 ·
  have h7:=tz1 (aq r6 r7);(iterate 3 refine k9 (gtf r7) ?_);(iterate 5 refine k9 rfl ?_);refine k9 (gtf r7) ?_;refine w_2 ?_;(iterate 10 refine k9 rfl ?_);refine w_9 ?_;refine hrr ?_
  have he:=jh (mu:=true) (i:=i) (a:=a) (b:=b) hT hbe bdS;exact f9 rfl rfl (by rw [he];exact ⟨CoC.agg ⟨CoP.refl _,bg,trivial⟩,CoC.refl _,trivial⟩)
 have h7:=tz2 (aq r6 r7);(iterate 3 refine qy ?_ (hg:=(gff r7)));refine w_5 ?_;refine qy ?_ (hg:=(gff r7));refine w_2 ?_;refine ai rfl rfl (fun r8=>?_) (fun r8=>?_)
 ·
  have h8:=tz1 (aq r7 r8);(iterate 4 refine k9 (gtf r8) ?_);(iterate 5 refine k9 rfl ?_);refine k9 (gtf r8) ?_;refine w_9 ?_;refine hrr ?_
  have he:=jh (mu:=true) (i:=i) (a:=a) (b:=b) hT hbe bdS;exact f9 rfl rfl (by rw [he];exact ⟨CoC.agg ⟨CoP.refl _,bg,trivial⟩,CoC.refl _,trivial⟩)
 have h8:=tz2 (aq r7 r8);(iterate 4 refine qy ?_ (hg:=(gff r8)));(iterate 5 refine k9 rfl ?_);refine qy ?_ (hg:=(gff r8));refine w_2 ?_;refine am _ rfl (fun e=>Bool.noConfusion ((a4a r8 rfl).symm.trans e)) (fun _=>?_);refine w_2 ?_
 have hnb:¬ jm l p m true i a b:=by
  unfold jm;rintro (h | h | h | h | h | h | ⟨h,h2⟩ | ⟨h,h2⟩) <;> first | omega | cases h
 have hap:=akx (mu:=true) (i:=i) (a:=a) (b:=b) hT hbe hnb;have ha:a.toNat < l.length:=by omega
 have hb:b.toNat < l.length:=by omega
 have hra:=hrow _ ha;have hrb:=hrow _ hb;have hi:i.toNat < m.length:=by omega
 refine gy ?_;refine m9 3 ?_;refine b5d ?_;refine qcx (wgx Tryz.func179) (ara (l.getD a.toNat default) (l.getD b.toNat default) (m.getD i.toNat default).lhs bsq bsq) ?_;refine w_3 ?_;refine hcv (fun h9=>?_) (fun h9=>?_)
 · refine w_6 ?_;refine hrr ?_;have he:=hap.trans (show mvE n l a.toNat b.toNat (m.getD i.toNat default) = (0,[],1) from if_neg (bol.1 bsr));exact f9 rfl rfl (by rw [he];exact ⟨CoC.agg ⟨CoP.refl _,bg,trivial⟩,CoC.refl _,trivial⟩)
 refine i6 ?_;refine rc rfl rfl rfl rfl rfl rfl (wgx Tryz.func180) (bkp n l (m.getD i.toNat default) a.toNat b.toNat hn0 hn16 hrow bsq ha hb) (⟨CoC.refl _,CoC.refl _,cci bsq,cci bsq,trivial⟩) rfl rfl ?_;refine dl ?_;refine hcd (fun h10=>?_) (fun h10=>?_)
 · refine w_6 ?_;refine hrr ?_;have he:=hap.trans (show mvE n l a.toNat b.toNat (m.getD i.toNat default) = (0,[],3) from (if_pos bsr).trans (if_pos bsq));exact f9 rfl rfl (by rw [he];exact ⟨CoC.agg ⟨CoP.refl _,bg,trivial⟩,CoC.refl _,trivial⟩)
 refine w_7 ?_;refine hrr ?_;have he:=hap.trans (show mvE n l a.toNat b.toNat (m.getD i.toNat default) = (n,b5 (l ++ [er (l.getD a.toNat default) (l.getD b.toNat default) ((m.getD i.toNat default).lhs ||| (m.getD i.toNat default).rhs)]),0) from (if_pos bsr).trans (if_neg bsq));exact f9 rfl rfl (by rw [he];exact CoL.refl _)
def b2g (n:Int) (l:List Rw) (p m:List Fd) (i a b:Int):a7 btb 131 [pT n l,pP (fdl p),pP (fdl m), .agg [.raw (.bool false), .raw (.int .i64 i), .raw (.int .i64 a), .raw (.int .i64 b)]] (aa [pT (dv n l p m false i a b).1 (dv n l p m false i a b).2.1,pI (dv n l p m false i a b).2.2]):=by
 refine hpx (nt:=158) Tryz.func131 ?_;refine sx7 ?_;refine m9 0 ?_;refine m9 1 ?_;refine m9 2 ?_;refine w_6 ?_;refine qcx (wgx Tryz.func178) (alu n l) ?_;refine w_2 ?_;refine hcv (fun h0=>?_) (fun h0=>?_)
 · refine w_6 ?_;refine hrr ?_;have he:=aq9 (n:=n) (l:=l) (p:=p) (m:=m) (mu:=false) (i:=i) (a:=a) (b:=b) bt5;exact f9 rfl rfl (by rw [he];exact ⟨CoC.agg ⟨CoP.refl _,bg,trivial⟩,CoC.refl _,trivial⟩)
 have hT:tok n l = true:=by simp_all
 obtain ⟨hn0,hn16,hl256,hrow⟩:=om hT;refine w_8 ?_;refine qcx adl (a6a n p m) ?_;refine w_7 ?_;refine hcn (fun h1=>?_) (fun h1=>?_)
 · refine w_7 ?_;refine hrr ?_;have he:=ap0 (mu:=false) (i:=i) (a:=a) (b:=b) hT bsr;exact f9 rfl rfl (by rw [he];exact ⟨CoC.agg ⟨CoP.refl _,bg,trivial⟩,CoC.refl _,trivial⟩)
 have hbe:be n p m = 0:=by assumption
 obtain ⟨_,_,hpl,hpa,hml,_⟩:=m7 hbe;refine o8 ?_;refine ai rfl rfl (fun r2=>?_) (fun r2=>?_)
 ·
  have h2:=tz1 r2;(iterate 4 refine k9 (gtf r2) ?_);refine w_2 ?_;(iterate 3 refine k9 rfl ?_);refine w_2 ?_;(iterate 4 refine k9 rfl ?_);refine w_2 ?_;(iterate 5 refine k9 rfl ?_);refine w_2 ?_;(iterate 3 refine k9 rfl ?_);refine w_2 ?_
  (iterate 9 refine k9 rfl ?_);refine w_2 ?_;(iterate 10 refine k9 rfl ?_);refine w_9 ?_;refine hrr ?_
  have he:=jh (mu:=false) (i:=i) (a:=a) (b:=b) hT hbe bdS;exact f9 rfl rfl (by rw [he];exact ⟨CoC.agg ⟨CoP.refl _,bg,trivial⟩,CoC.refl _,trivial⟩)
 have h2:=tz2 r2;(iterate 4 refine qy ?_ (hg:=(gff r2)));refine w_2 ?_;refine ai rfl rfl (fun r3=>?_) (fun r3=>?_)
 ·
  have h3:=tz1 (aq r2 r3);(iterate 3 refine k9 (gtf r3) ?_);refine w_2 ?_;(iterate 4 refine k9 rfl ?_);refine w_2 ?_;(iterate 5 refine k9 rfl ?_);refine w_2 ?_;(iterate 3 refine k9 rfl ?_);refine w_2 ?_;(iterate 9 refine k9 rfl ?_);refine w_2 ?_
  (iterate 10 refine k9 rfl ?_);refine w_9 ?_;refine hrr ?_
  have he:=jh (mu:=false) (i:=i) (a:=a) (b:=b) hT hbe bdS;exact f9 rfl rfl (by rw [he];exact ⟨CoC.agg ⟨CoP.refl _,bg,trivial⟩,CoC.refl _,trivial⟩)
 have h3:=tz2 (aq r2 r3);(iterate 3 refine qy ?_ (hg:=(gff r3)));refine w_2 ?_;refine ai rfl rfl (fun r4=>?_) (fun r4=>?_)
 ·
  have h4:=tz1 (aq r3 r4);(iterate 4 refine k9 (gtf r4) ?_);refine w_2 ?_;(iterate 5 refine k9 rfl ?_);refine w_2 ?_;(iterate 3 refine k9 rfl ?_);refine w_2 ?_;(iterate 9 refine k9 rfl ?_);refine w_2 ?_;(iterate 10 refine k9 rfl ?_)
  refine w_9 ?_;refine hrr ?_;have he:=jh (mu:=false) (i:=i) (a:=a) (b:=b) hT hbe bdS;exact f9 rfl rfl (by rw [he];exact ⟨CoC.agg ⟨CoP.refl _,bg,trivial⟩,CoC.refl _,trivial⟩)
 have h4:=tz2 (aq r3 r4);(iterate 4 refine qy ?_ (hg:=(gff r4)));refine w_2 ?_;refine ai rfl rfl (fun r5=>?_) (fun r5=>?_)
 ·
  have h5:=tz1 (aq r4 r5);(iterate 5 refine k9 (gtf r5) ?_);refine w_2 ?_;(iterate 3 refine k9 rfl ?_);refine w_2 ?_;(iterate 9 refine k9 rfl ?_);refine w_2 ?_;(iterate 10 refine k9 rfl ?_);refine w_9 ?_;refine hrr ?_
  have he:=jh (mu:=false) (i:=i) (a:=a) (b:=b) hT hbe bdS;exact f9 rfl rfl (by rw [he];exact ⟨CoC.agg ⟨CoP.refl _,bg,trivial⟩,CoC.refl _,trivial⟩)
 have h5:=tz2 (aq r4 r5);(iterate 5 refine qy ?_ (hg:=(gff r5)));refine w_2 ?_;refine ai rfl rfl (fun r6=>?_) (fun r6=>?_)
 ·
  have h6:=tz1 (aq r5 r6);(iterate 3 refine k9 (gtf r6) ?_);refine w_2 ?_;(iterate 9 refine k9 rfl ?_);refine w_2 ?_;(iterate 10 refine k9 rfl ?_);refine w_9 ?_;refine hrr ?_
  have he:=jh (mu:=false) (i:=i) (a:=a) (b:=b) hT hbe bdS;exact f9 rfl rfl (by rw [he];exact ⟨CoC.agg ⟨CoP.refl _,bg,trivial⟩,CoC.refl _,trivial⟩)
 have h6:=tz2 (aq r5 r6);(iterate 3 refine qy ?_ (hg:=(gff r6)));refine w_2 ?_;refine ai rfl rfl (fun r7=>?_) (fun r7=>?_)
 ·
  have h7:=tz1 (aq r6 r7);(iterate 3 refine k9 (gtf r7) ?_);(iterate 5 refine k9 rfl ?_);refine k9 (gtf r7) ?_;refine w_2 ?_;(iterate 10 refine k9 rfl ?_);refine w_9 ?_;refine hrr ?_
  have he:=jh (mu:=false) (i:=i) (a:=a) (b:=b) hT hbe bdS;exact f9 rfl rfl (by rw [he];exact ⟨CoC.agg ⟨CoP.refl _,bg,trivial⟩,CoC.refl _,trivial⟩)
 have h7:=tz2 (aq r6 r7);(iterate 3 refine qy ?_ (hg:=(gff r7)));(iterate 5 refine k9 rfl ?_);refine qy ?_ (hg:=(gff r7));refine w_2 ?_;(iterate 4 refine rq rfl rfl rfl rfl (gff (a4a r7 rfl)) ?_);refine w_5 ?_
 refine rq rfl rfl rfl rfl (gff (a4a r7 rfl)) ?_;refine w_2 ?_;refine am _ rfl (fun r8=>?_) (fun r8=>?_)
 · have h8:=tz1 (aq (a4a r7 rfl) r8);refine w_6 ?_;refine hrr ?_;have he:=jh (mu:=false) (i:=i) (a:=a) (b:=b) hT hbe bdS;exact f9 rfl rfl (by rw [he];exact ⟨CoC.agg ⟨CoP.refl _,bg,trivial⟩,CoC.refl _,trivial⟩)
 have h8:=tz2 (aq (a4a r7 rfl) r8);refine w_2 ?_
 have hnb:¬ jm l p m false i a b:=by
  unfold jm;rintro (h | h | h | h | h | h | ⟨h,h2⟩ | ⟨h,h2⟩) <;> first | omega | cases h
 have hap:=akx (mu:=false) (i:=i) (a:=a) (b:=b) hT hbe hnb;have ha:a.toNat < l.length:=by omega
 have hb:b.toNat < l.length:=by omega
 have hra:=hrow _ ha;have hrb:=hrow _ hb;have hi:i.toNat < p.length:=by omega
 have hu:inU n (p.getD i.toNat default) = true:=bp1.1 hpa _ (by rw [bo7,bo6 hi];exact bp3 hi);refine gy ?_;refine m9 3 ?_;refine b5d ?_;refine qcx (wgx Tryz.func179) (ara (l.getD a.toNat default) (l.getD b.toNat default) (p.getD i.toNat default).lhs bsq bsq) ?_;refine w_3 ?_;refine hcv (fun h9=>?_) (fun h9=>?_)
 · refine w_6 ?_;refine hrr ?_;have he:=hap.trans (show fdE n l a.toNat b.toNat (p.getD i.toNat default) = (0,[],1) from if_neg (bol.1 bsr));exact f9 rfl rfl (by rw [he];exact ⟨CoC.agg ⟨CoP.refl _,bg,trivial⟩,CoC.refl _,trivial⟩)
 refine kw ?_;refine rc rfl rfl rfl rfl rfl rfl (wgx Tryz.func181) (b3k n l (p.getD i.toNat default).rhs a.toNat b.toNat hn0 hn16 hrow bsq ha hb (fun j hj=>aam hn0 hn16 hu hj)) (⟨CoC.refl _,CoC.refl _,cci bsq,cci bsq,trivial⟩) rfl rfl ?_;refine dl ?_;refine hcd (fun h10=>?_) (fun h10=>?_)
 · refine w_6 ?_;refine hrr ?_;have hx:=bon (a21 (ez l (eqMs (cn l) a.toNat b.toNat (al (p.getD i.toNat default).rhs)))) (brh (nb _ _));exact f9 rfl rfl (by exfalso;omega)
 refine w_7 ?_;refine hrr ?_;have he:=hap.trans (show fdE n l a.toNat b.toNat (p.getD i.toNat default) = (n,b5 (ez l (eqMs (cn l) a.toNat b.toNat (al (p.getD i.toNat default).rhs))),0) from if_pos bsr);exact f9 rfl rfl (by rw [he];exact CoL.refl _)
end
section
def be1 {n:Int} (h0:0 <= n) (h1:n <= 16) {x:Fd}:inU n x = true <-> sub (x.lhs ||| x.rhs) (a6 n):=by
 rw [a5r h0 h1];unfold inU;rw [decide_eq_true_iff]
end
section
def AgE (E:Int -> Int -> Prop) (a b:Rw) (s:AS):Prop:=∀ i:Nat,i < a.length -> bw s (i:Int) = true -> E (a.getD i default) (b.getD i default)
structure Mdl (N:Nat) (p m:List Fd) (E:Int -> Int -> Prop) (R:Rw -> Prop):Prop where
 refl:∀ x,E x x
 symm:∀ {x y},E x y -> E y x
 trans:∀ {x y z},E x y -> E y z -> E x z
 len:∀ {r},R r -> r.length = N
 cong:∀ {r r':Rw},R r -> r'.length = r.length -> (∀ i,i < r.length -> E (r.getD i default) (r'.getD i default)) -> R r'
 fd:∀ {x},x ∈ p -> ∀ {a b},R a -> R b -> AgE E a b x.lhs -> AgE E a b x.rhs
 mv:∀ {x},x ∈ m -> ∀ {a b},R a -> R b -> AgE E a b x.lhs -> R (er a b (x.lhs ||| x.rhs))
def LE (N:Nat) (p m:List Fd) (l:List Rw) (x y:Int):Prop:=∀ E R,Mdl N p m E R -> (∀ r,r ∈ l -> R r) -> E x y
def LR (N:Nat) (p m:List Fd) (l:List Rw) (r:Rw):Prop:=∀ E R,Mdl N p m E R -> (∀ r,r ∈ l -> R r) -> R r
def baw (N:Nat) (p m:List Fd):Mdl N p m (fun _ _=>True) (fun r=>r.length = N) :=
 ⟨fun _=>trivial,fun _=>trivial,fun _ _=>trivial,fun h=>h,fun h e _=>e.trans h,fun _ _ _ _ _ _ _ _ _=>trivial,fun _ a b _ hb _=>(nq _ _ _).trans hb⟩
def a9q {N:Nat} {p m:List Fd} {l:List Rw} (hl:∀ r,r ∈ l -> r.length = N):Mdl N p m (LE N p m l) (LR N p m l) where
 refl x:=fun E R h _=>h.refl x
 symm h:=fun E R k kl=>k.symm (h E R k kl)
 trans h h2:=fun E R k kl=>k.trans (h E R k kl) (h2 E R k kl)
 len h:=h _ _ (baw N p m) hl
 cong h e h2:=fun E R k kl=>k.cong (h E R k kl) e fun i hi=>h2 i hi E R k kl
 fd hx _ _ ha hb hl:=fun i hi hs E R k kl=>k.fd hx (ha E R k kl) (hb E R k kl) (fun j hj hh=>hl j hj hh E R k kl) i hi hs
 mv hx _ _ ha hb hl:=fun E R k kl=>k.mv hx (ha E R k kl) (hb E R k kl) fun j hj hh=>hl j hj hh E R k kl
structure Ch (N:Nat) (p m:List Fd) (l0 l:List Rw) (σ:Int -> Int):Prop where
 rows:∀ r,r ∈ l -> LR N p m l0 r
 sym:∀ s,LE N p m l0 s (σ s)
 img:∀ r,r ∈ l0 -> r.map σ ∈ l
 fix:∀ r,r ∈ l -> ∀ z,z ∈ r -> σ z = z
 le:∀ s,σ s <= s
section
variable {N:Nat} {p m:List Fd} {l0 l l':List Rw} {σ σ':Int -> Int} {n:Int}
theorem Ch.start:Ch N p m l0 l0 id:=⟨fun r hr E R _ hl=>hl r hr,fun s E R k _=>k.refl s,fun r hr=>by rw [List.map_id];exact hr,fun _ _ _ _=>rfl,fun s=>Int.le_refl s⟩
theorem Ch.congr (h:Ch N p m l0 l σ) (e:∀ r,r ∈ l' <-> r ∈ l):Ch N p m l0 l' σ :=
 ⟨fun r hr=>h.rows r ((e r).1 hr),h.sym,fun r hr=>(e _).2 (h.img r hr),fun r hr=>h.fix r ((e r).1 hr),h.le⟩
def ta (hi lo z:Int):Int:=if z = hi then lo else z
section
variable {f:Int -> Int}
def mi {r:Rw} {i:Nat} (h:i < r.length):(r.map f).getD i default = f (r.getD i default):=by
 rw [bo7,boy,bo6 h,bo7,bo6 h];rfl
theorem Ch.sub (hl0:∀ r,r ∈ l0 -> r.length = N) (h:Ch N p m l0 l σ) {hi lo:Int} (hE:LE N p m l0 hi lo) (hle:lo <= hi) (hin:∃ r,r ∈ l /\ lo ∈ r):Ch N p m l0 (l.map fun r=>r.map (ta hi lo)) (fun s=>ta hi lo (σ s)):=by
 have hm:=a9q (p:=p) (m:=m) hl0
 have hs:∀ z,LE N p m l0 z (ta hi lo z):=fun z=>by
  unfold ta;split
  · rename_i e;rw [e];exact hE
  exact hm.refl z
 refine ⟨fun r hr=>?_,fun s=>hm.trans (h.sym s) (hs _),fun r hr=>?_,fun r hr z hz=>?_,fun s=>?_⟩
 · obtain ⟨r0,h0,rfl⟩:=boo.1 hr
   exact hm.cong (h.rows r0 h0) bst fun i hi=>by rw [mi hi];exact hs _
 · refine boo.2 ⟨_,h.img r hr, ?_⟩
   rw [List.map_map];rfl
 · obtain ⟨r0,h0,rfl⟩:=boo.1 hr
   obtain ⟨y,hy,rfl⟩:=boo.1 hz;obtain ⟨r1,h1,h2⟩:=hin;have e1:=h.fix r0 h0 y hy;have e2:=h.fix r1 h1 lo h2;by_cases e:y = hi
   · have e3:ta hi lo y = lo:=if_pos e
     show ta hi lo (σ (ta hi lo y)) = ta hi lo y;rw [e3,e2];unfold ta;split <;> rfl
   have e3:ta hi lo y = y:=if_neg e;show ta hi lo (σ (ta hi lo y)) = ta hi lo y;rw [e3,e1,e3]
 have h1:=h.le s
 have h2:ta hi lo (σ s) <= σ s:=by
  unfold ta;split <;> omega
 exact Int.le_trans h2 h1
def aul {M:Nat -> Nat -> Int} {a b j:Nat}:ez l (eqM M a b j) = (ez l M).map fun r=>r.map (ta (hiI (M a j) (M b j)) (loI (M a j) (M b j))):=by
 unfold ez;rw [List.map_map];refine bqx fun i _=>?_;show _ = List.map _ (List.map _ _);rw [List.map_map];rfl
def ayv {M:Nat -> Nat -> Int} {a j:Nat} (ha:a < l.length) (hj:j < (l.getD a default).length):∃ r,r ∈ ez l M /\ M a j ∈ r :=
 abw.2 ⟨a,j,ha,hj,rfl⟩
theorem Ch.eqMs (hl0:∀ r,r ∈ l0 -> r.length = N) {a b:Nat} (ha:a < l.length) (hb:b < l.length):∀ {js:List Nat} {M:Nat -> Nat -> Int} {σ:Int -> Int},Ch N p m l0 (ez l M) σ -> (∀ j,j ∈ js -> j < (l.getD a default).length /\ j < (l.getD b default).length /\ LE N p m l0 (M a j) (M b j)) ->
 ∃ σ',Ch N p m l0 (ez l (eqMs M a b js)) σ'
 | [],M,σ,h,_=>⟨σ,h⟩
 | j :: js,M,σ,h,hj=>by
  obtain ⟨h1,h2,h3⟩:=hj j bst;have hm:=a9q (p:=p) (m:=m) hl0;have hlo:loI (M a j) (M b j) <= hiI (M a j) (M b j):=by unfold loI hiI;split <;> split <;> omega
  have hE:LE N p m l0 (hiI (M a j) (M b j)) (loI (M a j) (M b j)):=by
   rcases b7k (M a j) (M b j) with e | e <;> rcases aw8 (M a j) (M b j) with f | f <;> rw [e,f]
   · exact hm.refl _
   · exact h3
   · exact hm.symm h3
   exact hm.refl _
  have hin:∃ r,r ∈ ez l M /\ loI (M a j) (M b j) ∈ r:=by
   rcases aw8 (M a j) (M b j) with f | f <;> rw [f]
   · exact ayv ha h1
   exact ayv hb h2
  have hq:=h.sub hl0 hE hlo hin;rw [<- aul] at hq
  have hs:∀ z,LE N p m l0 z (if z = hiI (M a j) (M b j) then loI (M a j) (M b j) else z):=fun z=>by
   split
   · rename_i e;rw [e];exact hE
   exact hm.refl z
  exact Ch.eqMs hl0 ha hb (js:=js) hq fun k hk=>by
   obtain ⟨h4,h5,h6⟩:=hj k (by simp [hk]);exact ⟨h4,h5,hm.trans (hm.symm (hs (M a k))) (hm.trans h6 (hs (M b k)))⟩
def ar2:ez l (cn l) = l:=by
 refine sg (nb _ _) fun i hi=>?_;rw [nb] at hi;rw [ajg hi];refine sg bst fun k hk=>?_;simp only [bp2,bqm] at hk;rw [bo7,boy,bpu hk];rfl
def av5 (hl0:∀ r,r ∈ l0 -> r.length = N) {a b:Rw} {s:AS} (h:nx a b s = true):AgE (LE N p m l0) a b s:=fun i hi hs=>by
 rw [of_decide_eq_true h i hi hs];exact (a9q hl0).refl _
def dj {α:Type} [Inhabited α] {l:List α} {i:Nat} (h:i < l.length):l.getD i default ∈ l:=by
 rw [bo7,bo6 h];exact bp3 h
def b26 {a b:Rw} {s:AS} (hl:a.length = b.length) {z:Int} (hz:z ∈ er a b s):z ∈ a \/ z ∈ b:=by
 unfold er at hz;rw [boo] at hz;obtain ⟨i,hi,rfl⟩:=hz;have hi:=bor.1 hi;split
 · exact .inl (dj bsq)
 exact .inr (dj hi)
def bgx (l:List Rw) (p m:List Fd) (s:St):Prop:=s.2.2.1 < l.length /\ s.2.2.2 < l.length /\ (s.1 = false -> s.2.1 < p.length) /\ (s.1 = true -> s.2.1 < m.length)
theorem Ch.app (hl0:∀ r,r ∈ l0 -> r.length = n.toNat) (hT:tok n l = true) (hp:p.all (inU n) = true) (h:Ch n.toNat p m l0 l σ) {s:St} (hs:bgx l p m s) (he:(fu n l p m s).2.2 = 0) :
 (fu n l p m s).1 = n /\ ∃ σ',Ch n.toNat p m l0 (fu n l p m s).2.1 σ':=by
 obtain ⟨mu,i,a,b⟩:=s;obtain ⟨ha,hb,hf,hv⟩:=hs;obtain ⟨h0,h1,h2,h3⟩:=om hT;have ha:a < l.length:=ha;have hb:b < l.length:=hb;have hra:=h3 a ha;have hrb:=h3 b hb
 cases mu with
 | false =>
  have hi:i < p.length:=hf rfl;have e0:fu n l p m (false,i,a,b) = fdE n l a b (p.getD i default):=rfl;rw [e0] at he ⊢;by_cases hg:nx (l.getD a default) (l.getD b default) (p.getD i default).lhs = true
  · have e1:fdE n l a b (p.getD i default) = (n,b5 (ez l (Go.Hx.eqMs (cn l) a b (al (p.getD i default).rhs))),0):=if_pos hg
    rw [e1];refine ⟨rfl, ?_⟩;have hu:inU n (p.getD i default) = true:=bp1.1 hp _ (dj hi);have hm:=a9q (p:=p) (m:=m) hl0;have hR:=hm.fd (dj hi) (h.rows _ (dj ha)) (h.rows _ (dj hb)) (av5 hl0 hg)
    obtain ⟨σ',hσ⟩:=Ch.eqMs (p:=p) (m:=m) hl0 ha hb (js:=al (p.getD i default).rhs) (M:=cn l) (σ:=σ) (by rw [ar2];exact h) fun j hj=>by
     have h4:=aam h0 h1 hu hj;have h5:=gi.1 hj;refine ⟨Nat.lt_of_lt_of_eq h4 hra.symm,Nat.lt_of_lt_of_eq h4 hrb.symm,hR j (Nat.lt_of_lt_of_eq h4 hra.symm) (by rw [cb h5.1];exact h5.2)⟩
    exact ⟨σ',hσ.congr fun r=>ip⟩
  have e1:fdE n l a b (p.getD i default) = (0,[],1):=if_neg hg;rw [e1] at he;exact absurd he bsu
 | true =>
  have hi:i < m.length:=hv rfl;have e0:fu n l p m (true,i,a,b) = mvE n l a b (m.getD i default):=rfl;rw [e0] at he ⊢;by_cases hg:nx (l.getD a default) (l.getD b default) (m.getD i default).lhs = true
  · have e1:mvE n l a b (m.getD i default) = xp n l (er (l.getD a default) (l.getD b default) ((m.getD i default).lhs ||| (m.getD i default).rhs)):=if_pos hg
    rw [e1] at he ⊢;by_cases hbig:256 < (b5 (l ++ [er (l.getD a default) (l.getD b default) ((m.getD i default).lhs ||| (m.getD i default).rhs)])).length
    · have e2:xp n l (er (l.getD a default) (l.getD b default) ((m.getD i default).lhs ||| (m.getD i default).rhs)) = (0,[],3):=if_pos hbig
      rw [e2] at he;exact absurd he bsu
    have e2:xp n l (er (l.getD a default) (l.getD b default) ((m.getD i default).lhs ||| (m.getD i default).rhs)) = (n,b5 (l ++ [er (l.getD a default) (l.getD b default) ((m.getD i default).lhs ||| (m.getD i default).rhs)]),0):=if_neg hbig;rw [e2];refine ⟨rfl,σ, ?_⟩;have hm:=a9q (p:=p) (m:=m) hl0;have hR:=hm.mv (dj hi) (h.rows _ (dj ha)) (h.rows _ (dj hb)) (av5 hl0 hg);refine ⟨fun r hr=>?_,h.sym,fun r hr=>ip.2 (boq _ (h.img r hr)),fun r hr z hz=>?_,h.le⟩
    · rcases boj.1 (ip.1 hr) with h4 | h4
      · exact h.rows r h4
      rw [bom.1 h4];exact hR
    rcases boj.1 (ip.1 hr) with h4 | h4
    · exact h.fix r h4 z hz
    rw [bom.1 h4] at hz
    rcases b26 bsq hz with h5 | h5
    · exact h.fix _ (dj ha) z h5
    exact h.fix _ (dj hb) z h5
  have e1:mvE n l a b (m.getD i default) = (0,[],1):=if_neg hg;rw [e1] at he;exact absurd he bsu
def aen {P:Nat -> Nat -> Nat -> Bool} {I L:Nat} (h:ol P I L = none) {i a b:Nat} (hi:i < I) (ha:a < L) (hb:b < L):P i a b = false:=by
 unfold ol at h;rw [bqu] at h;have h1:=h i (bor.2 hi);rw [bqu] at h1;have h2:=h1 a (bor.2 ha);rw [Option.map_eq_none_iff,br2] at h2;exact bol.2 (h2 b (bor.2 hb))
def b06 (h:gp l p m = none):(∀ i,i < p.length -> ∀ a,a < l.length -> ∀ b,b < l.length -> j3 l (p.getD i default) a b = false) /\ ∀ i,i < m.length -> ∀ a,a < l.length -> ∀ b,b < l.length -> j4 l (m.getD i default) a b = false:=by
 unfold gp at h;split at h
 · cases h
 rename_i e;rw [Option.map_eq_none_iff] at h;exact ⟨fun i hi a ha b hb=>aen (P:=fun i a b=>j3 l (p.getD i default) a b) e hi ha hb,fun i hi a ha b hb=>aen (P:=fun i a b=>j4 l (m.getD i default) a b) h hi ha hb⟩
def ze {α:Type} [Inhabited α] {l:List α} {x:α} (h:x ∈ l):∃ i,i < l.length /\ l.getD i default = x:=by
 obtain ⟨i,hi,rfl⟩:=bou h;exact ⟨i,hi,by rw [bo7,bo6 hi];rfl⟩
def b39 {a b:Rw} {s:AS} (hl:a.length = b.length):er (a.map f) (b.map f) s = (er a b s).map f:=by
 unfold er;rw [List.map_map,bp2];refine bqx fun i hi=>?_;have hi:=bor.1 hi;show _ = f (if bw s (i:Int) = true then a.getD i default else b.getD i default);split
 · rw [mi bsq]
 rw [mi hi]
theorem Ch.mdl (hT:tok n l = true) (hn:gp l p m = none) (σ:Int -> Int):Mdl n.toNat p m (fun x y=>σ x = σ y) (fun r=>r.length = n.toNat /\ r.map σ ∈ l):=by
 obtain ⟨hF,hM⟩:=b06 hn;refine ⟨fun _=>rfl,fun h=>h.symm,fun h k=>h.trans k,fun h=>h.1,fun {r r'} h e h2=>⟨e.trans h.1, ?_⟩,fun {x} hx {a b} ha hb hl i hi hs=>?_,fun {x} hx {a b} ha hb hl=>⟨(nq _ _ _).trans hb.1, ?_⟩⟩
 · have:r'.map σ = r.map σ:=by
    refine sg (by simp [e]) fun i hi=>?_;rw [bp2] at hi;rw [mi hi,mi bsq];exact (h2 i bsq).symm
   rw [this];exact h.2
 · obtain ⟨k,hk,rfl⟩:=ze hx
   obtain ⟨ia,hia,ea⟩:=ze ha.2;obtain ⟨ib,hib,eb⟩:=ze hb.2;have h1:=hF k hk ia hia ib hib;unfold j3 at h1;rw [ea,eb,a4c (fun j hj hs=>by rw [bp2] at hj;rw [mi hj,mi (by rw [hb.1,<- ha.1];exact hj)];exact hl j hj hs),bq1,Bool.not_eq_false'] at h1;have h2:=of_decide_eq_true h1 i (by rw [bp2];exact hi) hs;rw [mi hi,mi (by rw [hb.1,<- ha.1];exact hi)] at h2;exact h2
 obtain ⟨k,hk,rfl⟩:=ze hx;obtain ⟨ia,hia,ea⟩:=ze ha.2;obtain ⟨ib,hib,eb⟩:=ze hb.2;have h1:=hM k hk ia hia ib hib;unfold j4 at h1;rw [ea,eb,a4c (fun j hj hs=>by rw [bp2] at hj;rw [mi hj,mi (by rw [hb.1,<- ha.1];exact hj)];exact hl j hj hs),bq1,Bool.not_eq_false'] at h1;obtain ⟨r,hr,e⟩:=bp4.1 h1;rw [<- b39 (by rw [ha.1,hb.1]),<- of_decide_eq_true e];exact hr
theorem Ch.has (h:Ch n.toNat p m l0 l σ) (hT:tok n l = true) (hl0:∀ r,r ∈ l0 -> r.length = n.toNat) (hn:gp l p m = none):(∀ x y,LE n.toNat p m l0 x y -> σ x = σ y) /\ ∀ r,LR n.toNat p m l0 r -> r.map σ ∈ l:=by
 have hm:=Ch.mdl (p:=p) (m:=m) hT hn σ;have hl:∀ r,r ∈ l0 -> r.length = n.toNat /\ r.map σ ∈ l:=fun r hr=>⟨hl0 r hr,h.img r hr⟩;exact ⟨fun x y e=>e _ _ hm hl,fun r e=>(e _ _ hm hl).2⟩
def ahp:∀ {r:Rw},(∀ z,z ∈ r -> f z = z) -> r.map f = r
 | [],_=>rfl
 | z :: r,h=>by rw [bpt,h z bst,ahp fun y hy=>h y (by simp [hy])]
theorem Ch.mem (h:Ch n.toNat p m l0 l σ) (hT:tok n l = true) (hl0:∀ r,r ∈ l0 -> r.length = n.toNat) (hn:gp l p m = none) {r:Rw}:r ∈ l <-> LR n.toNat p m l0 r /\ r.map σ = r:=by
 constructor
 · intro hr
   exact ⟨h.rows r hr,ahp (h.fix r hr)⟩
 rintro ⟨h1,h2⟩;rw [<- h2];exact (h.has hT hl0 hn).2 r h1
end
end
end
section
def bj2:List (List Int) -> List Rw
 | []=>[[]]
 | c :: cs=>c.flatMap fun z=>(bj2 cs).map fun r=>z :: r
section
variable {N:Nat} {p m:List Fd} {l0 l:List Rw}
def qn {a b:Rw} {s:AS} {i:Nat} (h:i < b.length):(er a b s).getD i default = if bw s (i:Int) = true then a.getD i default else b.getD i default:=by
 unfold er;rw [bo7,boy,bpu h];rfl
def b4c (C:Nat -> List Int) (hd:∀ i j z,z ∈ C i -> z ∈ C j -> i = j):Mdl N p m (fun x y=>x = y \/ ∃ i,x ∈ C i /\ y ∈ C i) (fun r=>r.length = N /\ ∀ i,i < N -> r.getD i default ∈ C i) where
 refl _:=.inl rfl
 symm h:=by
  rcases h with h | ⟨i,h,k⟩
  · exact .inl h.symm
  exact .inr ⟨i,k,h⟩
 trans h h2:=by
  rcases h with h | ⟨i,h,k⟩
  · rw [h];exact h2
  rcases h2 with h2 | ⟨j,h2,k2⟩
  · rw [<- h2];exact .inr ⟨i,h,k⟩
  have:=hd i j _ k h2;subst this;exact .inr ⟨i,h,k2⟩
 len h:=h.1
 cong h e h2:=⟨e.trans h.1,fun i hi=>by
  have h3:=h.2 i hi
  rcases h2 i (by rw [h.1];exact hi) with h4 | ⟨j,h4,h5⟩
  · rw [<- h4];exact h3
  have:=hd i j _ h3 h4;subst this
  exact h5⟩
 fd _ a b ha hb _:=fun i hi _=>.inr ⟨i,ha.2 i (by rw [<- ha.1];exact hi),hb.2 i (by rw [<- ha.1];exact hi)⟩
 mv _ a b ha hb _:=⟨(nq _ _ _).trans hb.1,fun i hi=>by
  rw [qn (by rw [hb.1];exact hi)];split
  · exact ha.2 i hi
  exact hb.2 i hi⟩
def biv (N:Nat) (p m:List Fd) (l0:List Rw):Prop:=∀ l,s6 l -> (∀ r,r ∈ l -> LR N p m l0 r) -> l.length <= 256
end
section
variable {p m:List Fd} {l0 l:List Rw} {n:Int} {σ:Int -> Int}
def aro {s:St} (h:a2z l p m s):bgx l p m s:=by
 obtain ⟨h1,h2,h3⟩:=h;refine ⟨h1,h2,fun e=>?_,fun e=>?_⟩
 · rcases h3 with ⟨_,h,_⟩ | ⟨h,_⟩
   · exact h
   rw [e] at h;cases h
 rcases h3 with ⟨h,_⟩ | ⟨_,h,_⟩
 · rw [e] at h;cases h
 exact h
theorem Ch.code (h0:tok n l0 = true) (hS:biv n.toNat p m l0) (hp:p.all (inU n) = true) (hT:tok n l = true) (h:Ch n.toNat p m l0 l σ) {s:St} (hs:a2z l p m s):(fu n l p m s).2.2 = 0:=by
 rcases an9 hT hp hs with e | ⟨l',e,_⟩
 · obtain ⟨mu,i,a,b⟩:=s
   obtain ⟨ha,hb,hs | hs⟩:=hs
   · obtain ⟨h1,h2,h3⟩:=hs
     cases h1;have h4:fu n l p m (false,i,a,b) = fdE n l a b (p.getD i default):=rfl;have hg:=(aun hT (bp1.1 hp _ (dj h2)) ha hb h3).1;have hg:fdE n l a b (p.getD i default) = (n,fdL l a b (p.getD i default),0):=hg;rw [h4,hg] at e ⊢
   obtain ⟨h1,h2,h3⟩:=hs;cases h1;have h4:fu n l p m (true,i,a,b) = mvE n l a b (m.getD i default):=rfl;have h5:j4 l (m.getD i default) a b = true:=h3;unfold j4 at h5;rw [boc] at h5;have h6:mvE n l a b (m.getD i default) = xp n l (er (l.getD a default) (l.getD b default) ((m.getD i default).lhs ||| (m.getD i default).rhs)):=if_pos h5.1;have hl0:∀ r,r ∈ l0 -> r.length = n.toNat:=fun r hr=>(a0j h0 r hr).1
   have h7:=hS (b5 (l ++ [er (l.getD a default) (l.getD b default) ((m.getD i default).lhs ||| (m.getD i default).rhs)])) (jk _) fun r hr=>by
    rcases boj.1 (ip.1 hr) with h8 | h8
    · exact h.rows r h8
    rw [bom.1 h8];exact (a9q hl0).mv (dj h2) (h.rows _ (dj ha)) (h.rows _ (dj hb)) (av5 hl0 h5.1)
   rw [h4,h6];unfold xp;rw [if_neg bsq]
 rw [e]
def TrZ (n:Int) (p m:List Fd) (lend:List Rw):List Rw -> List St -> Prop
 | l,[]=>l = lend
 | l,s :: r=>tok n l = true /\ a2z l p m s /\ ∃ l',fu n l p m s = (n,l',0) /\ ¬ l' = l /\ TrZ n p m lend l' r
end
def stC (n:Int) (ps:List AS) (c:Nat):List Int:=if c < n.toNat then (List.range ps.length).map fun i=>stV n i (ps.getD i default) c else []
section
variable {n:Int} {ps:List AS} {p m:List Fd}
def bcp (h0:0 <= n) {i c:Nat} {q:AS} (hc:c < n.toNat):stV n i q c % n = (c:Int):=by
 unfold stV;split
 · exact Int.emod_eq_of_lt bsq bsq
 have e:n + (i:Int) * n + (c:Int) = (c:Int) + n * (1 + (i:Int)):=by rw [Int.mul_add,Int.mul_one,Int.mul_comm (i:Int) n];omega
 rw [e,Int.add_mul_emod_self_left];exact Int.emod_eq_of_lt bsq bsq
def aft (h0:0 <= n) {c:Nat} {z:Int} (h:z ∈ stC n ps c):c < n.toNat /\ z % n = (c:Int):=by
 unfold stC at h;split at h
 · rename_i hc
   obtain ⟨i,_,rfl⟩:=boo.1 h;exact ⟨hc,bcp h0 hc⟩
 simp at h
def b9v (h0:0 <= n):∀ i j z,z ∈ stC n ps i -> z ∈ stC n ps j -> i = j:=fun i j z h k=>by
 have h1:=(aft h0 h).2;have h2:=(aft h0 k).2;omega
def afe {r:Rw} (hr:r ∈ bj n ps):r.length = n.toNat /\ ∀ i,i < n.toNat -> r.getD i default ∈ stC n ps i:=by
 unfold bj at hr;obtain ⟨k,hk,rfl⟩:=boo.1 hr;refine ⟨a9n _ _ _,fun i hi=>?_⟩;rw [adi hi];unfold stC;rw [if_pos hi];exact boo.2 ⟨k,hk,rfl⟩
end
end
section
section
variable {n:Int} {ps:List AS} {p m:List Fd} {l l0:List Rw} {σ:Int -> Int}
def bg2 {N:Nat} {l l':List Rw} (h:∀ r,r ∈ l <-> r ∈ l') {r:Rw}:LR N p m l r <-> LR N p m l' r :=
 ⟨fun k E R hm hl=>k E R hm fun r hr=>hl r ((h r).1 hr),fun k E R hm hl=>k E R hm fun r hr=>hl r ((h r).2 hr)⟩
def aww (h0:0 <= n) {c:Nat} {z:Int} (h:z ∈ stC n ps c):z = (c:Int) \/ n <= z:=by
 unfold stC at h;split at h
 · obtain ⟨i,_,rfl⟩:=boo.1 h
   unfold stV;split
   · exact .inl rfl
   right;have:=Int.mul_nonneg (show (0:Int) <= (i:Int) by omega) h0;omega
 simp at h
theorem Ch.first (h0:0 <= n) (h:Ch n.toNat p m (b5 (bj n ps)) l σ):(cg n).map σ = cg n:=by
 refine ahp fun z hz=>?_;unfold cg at hz;obtain ⟨c,hc,rfl⟩:=boo.1 hz;have hc:=bor.1 hc;have h1:=h.sym (c:Int) _ _ (b4c (stC n ps) (b9v h0)) fun r hr=>afe (ip.1 hr)
 rcases h1 with h1 | ⟨i,h1,h2⟩
 · exact h1.symm
 have h3:=(aft h0 h1).2;have h4:=Int.emod_eq_of_lt (a:=(c:Int)) (b:=n) bsq bsq;have h5:i = c:=by omega
 subst h5;have h6:=h.le (i:Int)
 rcases aww h0 h2 with h7 | h7
 · exact h7
 omega
def yt {r:Rw}:(l.any fun x=>decide (x = r)) = decide (r ∈ l):=by
 rw [bqf,bp4,decide_eq_true_iff];constructor
 · rintro ⟨x,hx,e⟩
   rw [<- of_decide_eq_true e];exact hx
 intro h;exact ⟨r,h,decide_eq_true rfl⟩
def swI (n z:Int):Int:=if n <= z /\ z < 2 * n then z + n else if 2 * n <= z /\ z < 3 * n then z - n else z
abbrev bno (n:Int) (x:Fd):Fd:=⟨x.lhs,a6 n &&& ~~~(x.lhs ||| x.rhs)⟩
end
end
section
section
variable {n:Int} {p m:List Fd} {l0 l:List Rw} {σ:Int -> Int}
def b5v (hT:tok n l = true) (hp:p.all (inU n) = true) (hm:m = []) {s:St} (hs:a2z l p m s):(fu n l p m s).2.2 = 0:=by
 obtain ⟨mu,i,a,b⟩:=s;obtain ⟨ha,hb,hs | hs⟩:=hs
 · obtain ⟨h1,h2,h3⟩:=hs
   cases h1;have h4:fu n l p m (false,i,a,b) = fdE n l a b (p.getD i default):=rfl;have hg:fdE n l a b (p.getD i default) = (n,fdL l a b (p.getD i default),0):=(aun hT (bp1.1 hp _ (dj h2)) ha hb h3).1;rw [h4,hg]
 obtain ⟨_,h2,_⟩:=hs;subst hm;exact absurd h2 (bod _)
def b0q (hl0:∀ r,r ∈ l0 -> r.length = n.toNat) (hp:p.all (inU n) = true) (Z:List Int):∀ (F:Nat) (l:List Rw) (acc:List St) (σ:Int -> Int),tok n l = true -> Ch n.toNat p m l0 l σ -> Cov Z l -> muC Z l < F ->
 (jj F n l p m acc = ([],(0,[]),3) /\ ¬ m = []) \/ ∃ sts lend σ',jj F n l p m acc = (acc ++ sts,(n,lend),0) /\ Ch n.toNat p m l0 lend σ' /\ tok n lend = true /\ gp lend p m = none /\ TrZ n p m lend l sts:=by
 intro F
 induction F with
 | zero=>intro _ _ _ _ _ _ h;exact absurd h (bod _)
 | succ F ih =>
  intro l acc σ hT hC hZ hF
  cases hn:gp l p m with
  | none=>exact .inr ⟨[],l,σ,by rw [afl bsq hn,bpd],hC,hT,hn,rfl⟩
  | some s =>
   have hs:=agb hn
   rcases an9 hT hp hs with e | ⟨l',e,hT',h3⟩
   · left
     refine ⟨adh bsq hn e bsu,fun hm=>?_⟩;have:=b5v hT hp hm hs;rw [e] at this;exact absurd this bsu
   obtain ⟨h4,h5⟩:=h3 Z hZ;obtain ⟨_,σ',hC'⟩:=Ch.app hl0 hT hp hC (aro hs) (by rw [e]);rw [e] at hC'
   rcases ih l' (acc ++ [s]) σ' hT' hC' h4 bsq with ⟨q,q0⟩ | ⟨sts,lend,σ2,q1,q2,q3,q4,q5⟩
   · left
     exact ⟨by rw [a36 bsq hn e,Nat.add_sub_cancel,q],q0⟩
   right;refine ⟨s :: sts,lend,σ2, ?_,q2,q3,q4,hT,hs,l',e,fun e=>?_,q5⟩
   · rw [a36 bsq hn e,Nat.add_sub_cancel,q1,bpo]
     rfl
   subst e;omega
def azo (hT:tok n l = true) (hb:be n p m = 0):(ni FU n l p m = ([],(0,[]),3) /\ ¬ m = []) \/ ∃ sts lend σ,ni FU n l p m = (sts,(n,lend),0) /\ Ch n.toNat p m l lend σ /\ tok n lend = true /\ gp lend p m = none /\ TrZ n p m lend l sts:=by
 have hck:ckE n l p m = 0:=(if_pos hT).trans hb;rw [a5y hck]
 rcases b0q (fun r hr=>(a0j hT r hr).1) (m7 hb).2.2.2.1 l.flatten FU l [] id hT Ch.start (amp l) (ayg hT) with h | ⟨sts,lend,σ',q1,q⟩
 · exact .inl h
 exact .inr ⟨sts,lend,σ',by rw [q1,bsa],q⟩
def trL (n:Int) (p m:List Fd):List Rw -> List St -> List (List Rw)
 | l,[]=>[l]
 | l,s :: r=>l :: trL n p m (fu n l p m s).2.1 r
def a4e:∀ {sts:List St} {l:List Rw},(trL n p m l sts).length = sts.length + 1
 | [],_=>rfl
 | s :: r,l=>by unfold trL;rw [bov,a4e,bov]
def amr:∀ {sts:List St} {l lend:List Rw},TrZ n p m lend l sts -> lend ∈ trL n p m l sts
 | [],l,lend,h=>by
  have h:l = lend:=h;subst h;simp [trL]
 | s :: r,l,lend,h=>by
  obtain ⟨_,_,l',e,_,h⟩:=h;unfold trL;rw [e];exact bpg _ (amr h)
def b05 (hl0:∀ r,r ∈ l0 -> r.length = n.toNat) (hp:p.all (inU n) = true):∀ {sts:List St} {l lend:List Rw} {σ:Int -> Int},TrZ n p m lend l sts -> tok n lend = true -> Ch n.toNat p m l0 l σ -> ∀ t,t ∈ trL n p m l sts -> ∃ σ,Ch n.toNat p m l0 t σ
 | [],l,lend,σ,h,_,hC,t,ht=>by
  rw [bom.1 (show t ∈ [l] from ht)];exact ⟨σ,hC⟩
 | s :: r,l,lend,σ,h,hTe,hC,t,ht=>by
  obtain ⟨hT,hs,l',e,_,h⟩:=h;unfold trL at ht;rw [e] at ht
  rcases bok.1 ht with rfl | ht
  · exact ⟨σ,hC⟩
  obtain ⟨_,σ',hC'⟩:=Ch.app hl0 hT hp hC (aro hs) (by rw [e]);rw [e] at hC';exact b05 hl0 hp h hTe hC' t ht
end
section
variable {n:Int} {ps:List AS} {p m:List Fd}
def adj (h0:0 <= n) (h16:n <= 16) (hk:ps.length <= 64):tok n (b5 (bj n ps)) = true:=by
 refine a80 h0 h16 ?_ fun r hr=>?_
 · have:=a21 (bj n ps)
   rw [sk] at this;omega
 obtain ⟨h1,h2⟩:=afe hr;refine ⟨h1,fun z hz=>?_⟩;obtain ⟨i,hi,rfl⟩:=ze hz
 rcases aww h0 (h2 i bsq) with h3 | h3 <;> omega
def a8i (hk:ps.length <= 64) (hb:be n p m = 0) :
 (ni FU n (b5 (bj n ps)) p m = ([],(0,[]),3) /\ ¬ m = []) \/ ∃ sts lend,ni FU n (b5 (bj n ps)) p m = (sts,(n,lend),0) /\ (cg n ∈ lend <-> LR n.toNat p m (bj n ps) (cg n)) /\
  TrZ n p m lend (b5 (bj n ps)) sts /\ tok n lend = true /\ ((∃ t,t ∈ trL n p m (b5 (bj n ps)) sts /\ cg n ∈ t) <-> cg n ∈ lend):=by
 obtain ⟨h0,h16,_,hp,_⟩:=m7 hb;have hT:=adj h0 h16 hk;have hl0:∀ r,r ∈ b5 (bj n ps) -> r.length = n.toNat:=fun r hr=>(a0j hT r hr).1
 rcases azo hT hb with h | ⟨sts,lend,σ,h1,h2,h3,h4,h5⟩
 · exact .inl h
 right
 have hf:cg n ∈ lend <-> LR n.toNat p m (b5 (bj n ps)) (cg n):=by
  rw [h2.mem h3 hl0 h4];exact ⟨fun h=>h.1,fun h=>⟨h,h2.first h0⟩⟩
 refine ⟨sts,lend,h1,by rw [hf,bg2 (l':=bj n ps) fun r=>ip],h5,h3, ?_⟩;constructor
 · rintro ⟨t,ht,hft⟩
   obtain ⟨σ',hC⟩:=b05 hl0 hp h5 h3 Ch.start t ht;exact hf.2 (hC.rows _ hft)
 intro h;exact ⟨lend,amr h5,h⟩
end
end
section
def ax2 {l:List Fd} {p:AS} (h:bsz p <= 12):cr l p = true <-> ∃ x,sub x p /\ ll l p x = true:=by
 constructor
 · intro hv
   obtain ⟨x,_,h1,h2⟩:=a92 hv;exact ⟨x,h1,h2⟩
 rintro ⟨x,h1,h2⟩;unfold cr a1x;rw [List.find?_isSome];refine ⟨x, ?_,h2⟩;unfold av;rw [if_neg bsq];exact rt.2 h1
section
variable {n:Int} {l:List Fd}
def ahd (h:au n l = 0):∀ f ∈ l,sub f.lhs (a6 n) /\ sub f.rhs (a6 n):=fun f hf=>by
 obtain ⟨h0,h1,_,h3⟩:=f8 h;exact (pf h0 h1).1 (bp1.1 h3 f hf)
def aqo (h:au n l = 0):sx l (a6 n):=fun f hf _=>(ahd h f hf).2
def ut (h:au n l = 0) {x:AS} (hx:sub x (a6 n)):sub (clo l x) (a6 n):=ku (aqo h) hx
end
def wa {α β:Type} [Inhabited α] {f:α -> β} {l:List α} {i:Nat} (h:i < l.length):(l.take (i + 1)).map f = (l.take i).map f ++ [f (l.getD i default)]:=by
 rw [aw h,bqi];rfl
structure Dps where
 n:BitVec 8
 l:List Dp
deriving Inhabited
def Dps.num (d:Dps):Int:=((d.n.toNat % 7:Nat):Int)
def Dps.fds (d:Dps):List Fd:=d.l.map (Dp.fd d.num)
def Dps.c (d:Dps):Nat -> PV
 | 0=>.raw (.int .u8 (d.n.toNat:Int))
 | 1=>dpl d.l
 | _=>.any
abbrev Dps.pc (d:Dps):PC:=.agg [d.c 0,d.c 1]
end
end Go.Hx

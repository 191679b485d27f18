/- A part of the proof: X20 Ch18 X21 X22 X23 Ch19 X24 Ch20 Ch21 X27 Ch23. -/
import Derived.Test.YtkkenjdfbojdlaaGreatDoorGx21
import Derived.Test.YtkkenjdfbojdlaaGreatDoorGx28
set_option linter.all false
set_option maxRecDepth 100000
set_option maxHeartbeats 1000000
namespace Go.Hx
section
open Go.Proofs
theorem aee:goodFn Tryz.prog 182:=wgx Tryz.func182
theorem ai8 (l:List Rw) (hl:∀ i,i < l.length -> (l.getD i default).length <= 17592186044416) (hl2:l.length <= 5864062014805):da Tryz.prog 182 [.one (.p (rl l))] [] (.v (.one (.ref 901 l.length))) [(901, .arr true 1 84 l.length (lf rC l))] []:=by
 refine hfx (nt:=21) Tryz.func182 ?_;refine cq ?_;refine cb 0 rfl fun hn=>?_;refine w_7 ?_;refine cj 3 901 true 1 84 (lf rC l) boz rfl (CoP.sl rfl (.inr rfl) (fun h=>h) (fun i j hi _=>absurd hi (bkp i))) (.inr rfl) rfl ?_;refine w_6 ?_;refine a6 (ι:=Nat) ⟨[(0,some _)],[]⟩ ⟨⟨c9,trivial⟩,trivial⟩ (fun i=>⟨[(3,some (.v (.one (.ref 901 i)))),(4,some (vI i))],[(901,some (.arr true 1 84 i (lf rC l)))]⟩) (fun i=>i <= l.length) (fun i=>l.length - i) (0) (bkl _) ⟨⟨zy,zy,trivial⟩,⟨u9,trivial⟩⟩ ?_;rintro i hi;refine w_8 ?_;refine hcd (fun h0=>?_) (fun h0=>?_)
 · have hli:=hl i bos;refine w_3 ?_;refine ard [0,1,2,3,4,5,6] [7,8,9] rfl ?_;refine au3 (E:=gl) fc ?_;refine qy ?_;refine m9 0 ?_;refine w_4 ?_;refine r9 1 true ?_;refine aq ?_;refine bgz ?_;refine aup 17 rfl rfl rfl ?_;refine b9y ?_;refine au3 (E:=gl) (L1:=[7,8,9]) (L2:=[]) fc ?_;refine m9 2 ?_;refine r9 3 true ?_;refine w_2 ?_;refine be1 ?_;refine w_5 ?_;exact lpx (i + 1) ⟨⟨zy,zy,c9,trivial⟩,⟨⟨_,rfl,(po (fun h=>h) (fun j hj=>by obtain rfl:j = 0:=bos;exact bdr (fun _ _=>rfl)))⟩,trivial⟩⟩
 obtain rfl:i = l.length:=by omega
 refine w_7 ?_;refine ⟨.inr rfl, ?_⟩;exact ⟨_,_,rfl,bou,CoR.refl _,⟨u9,trivial⟩⟩
theorem asg (l:List Rw) (hl:∀ i,i < l.length -> (l.getD i default).length <= 17592186044416) (hl2:l.length <= 5864062014805):da Tryz.prog 182 [.one (.p (rl l))] [] (.v (.one (.ref 901 l.length))) [(901, .nest 84 3 1 l.length (nM l) (mg (ci l)) none)] []:=by
 refine hfx (nt:=21) Tryz.func182 ?_;refine cq ?_;refine cb 0 rfl fun hn=>?_;refine w_7 ?_;refine atn 3 901 84 3 1 (nM l) (mg (ci l)) boz rfl rfl ?_;refine w_6 ?_;refine a6 (ι:=Nat) ⟨[(0,some _)],[]⟩ ⟨⟨c9,trivial⟩,trivial⟩ (fun i=>⟨[(3,some (.v (.one (.ref 901 i)))),(4,some (vI i))],[(901,some (.nest 84 3 1 i (nM l) (mg (ci l)) none))]⟩) (fun i=>i <= l.length) (fun i=>l.length - i) (0) (bkl _) ⟨⟨zy,zy,trivial⟩,⟨u9,trivial⟩⟩ ?_;rintro i hi;refine w_8 ?_;refine hcd (fun h0=>?_) (fun h0=>?_)
 · have hli:=hl i bos;refine w_5 ?_;refine m9 0 ?_;refine w_4 ?_;refine r9 1 true ?_;refine m9 2 ?_;refine r9 3 true ?_;refine w_2 ?_;refine afu 901 0 rfl rfl ?_;refine w_5 ?_;exact lpx (i + 1) ⟨⟨zy,zy,c9,trivial⟩,⟨⟨_,rfl,(arq (blc _) (fun _ _=>rfl))⟩,trivial⟩⟩
 obtain rfl:i = l.length:=by omega
 refine w_7 ?_;refine ⟨.inr rfl, ?_⟩;exact ⟨_,_,rfl,bou,CoR.refl _,⟨u9,trivial⟩⟩
end
section
theorem ast {s:AS} {n:Nat} (hn:n <= 32) (h:∀ j,j ∈ al s -> j < n):f0 s n = al s:=by
 have h2:∀ d,n + d <= 32 -> f0 s (n + d) = f0 s n:=by
  intro d
  induction d with
  | zero=>intro _;rfl
  | succ d ih =>
   intro hd
   have hf:dq s ((n + d:Nat):Int) = false:=by
    rw [ja bos,bkv];intro e;have:=h _ (jg.2 ⟨by omega,e⟩);omega
   rw [<- ih bos];exact su (i:=n + d) (show n + d < 32 by omega) hf
 have:=h2 (32 - n) bos;rw [<- this,show n + (32 - n) = 32 by omega];rfl
theorem sh {M:Nat -> Nat -> Int} {a b j:Nat} {js:List Nat}:eqMs M a b (js ++ [j]) = eqM (eqMs M a b js) a b j:=by
 unfold eqMs;rw [bm0];rfl
theorem b0o {l:List Rw} {M:Nat -> Nat -> Int} {n:Nat} (hn:n = l.length):CoP (.sl n 1 false (a0a 1 (nM l) (mg M))) (rl (dy l M)):=by
 obtain ⟨_,_,_,h1,h2⟩:=aoe (l:=l) (M:=M) (e:=25) hn;exact CoP.sl h1 (.inl rfl) (fun h=>h) h2
end
section
open Go.Proofs
theorem b9w:goodFn Tryz.prog 181:=wgx Tryz.func181
theorem azv (n:Int) (l:List Rw) (s:AS) (a b:Nat) (h0:0 <= n) (h1:n <= 16) (hrow:∀ i,i < l.length -> (l.getD i default).length = n.toNat) (hl2:l.length <= 4294967296) (ha:a < l.length) (hb:b < l.length) (hs:∀ j,j ∈ al s -> j < n.toNat):a7 Tryz.prog 181 [pT n l,pA s,pI (a:Int),pI (b:Int)] (ae [pT n (ar (dy l (eqMs (ci l) a b (al s))))]):=by
 refine hpx (nt:=88) Tryz.func181 ?_;refine sx7 ?_;refine m9 0 ?_;refine m9 1 ?_;refine w_5 ?_;refine fc9 aee (asg l (fun i hi=>by rw [hrow i hi];omega) bos) trivial ?_;refine w_8 ?_;refine a6 (ι:=Nat) ⟨[(1,some _),(2,some _),(3,some _),(4,some _),(8,some _),(9,some _)],[(0,some _),(1,some _)]⟩ ⟨⟨c9,c9,c9,c9,c9,c9,trivial⟩,⟨u9,u9,trivial⟩⟩ (fun j=>⟨[(10,some (vI j))],[(901,some (.nest 84 3 1 l.length (fun i=>(l.getD i default).length) (mg (eqMs (ci l) a b (f0 s j))) none))]⟩) (fun j=>j <= n.toNat) (fun j=>n.toNat - j) (0) (bkl _) ⟨⟨zy,trivial⟩,⟨u9,trivial⟩⟩ ?_;rintro j hj;refine w_2 ?_;have hra:=hrow a ha;have hrb:=hrow b hb;refine w_6 ?_;refine hcd (fun h0=>?_) (fun h0=>?_)
 ·
  refine ce ?_;(iterate 2 refine rq rfl rfl rfl rfl rfl ?_ (hp:=(by (try simp only [bkw,nM]);(repeat' apply And.intro) <;> first | trivial | rfl | omega | exact bkm rfl)));refine w_5 ?_;(iterate 2 refine rq rfl rfl rfl rfl rfl ?_ (hp:=(by (try simp only [bkw,nM]);(repeat' apply And.intro) <;> first | trivial | rfl | omega | exact bkm rfl)));refine w_9 ?_
  refine qcx vq (a9k s (j:Int)) ?_;refine w_2 ?_;refine am rfl rfl (fun r1=>?_) (fun r1=>?_)
  ·
   have h1:=d6 r1;(iterate 3 refine k9 (gtf r1) ?_);refine rq rfl rfl rfl rfl rfl ?_ (hp:=r1);refine aq ?_;refine a8 _ rfl (fun _=>?_) (fun e=>by cases e);refine w_6 ?_
   exact lpx (j + 1) ⟨⟨zy,c9,c9,c9,c9,c9,c9,trivial⟩,⟨⟨_,rfl,(by first | (rw [su bos bot];exact CoO.refl _) | (rw [o0 bos bot,sh,ul bot];exact CoO.refl _) | (rw [o0 bos bot,sh];exact s6 (zm bos)))⟩,u9,u9,trivial⟩⟩
  have h1:=d5 r1;(iterate 3 refine qy ?_ (hg:=(gff r1)));refine w_2 ?_;refine a8 _ rfl (fun r2=>?_) (fun r2=>?_)
  · have h2:=tz1 (au r1 r2);refine w_6 ?_;exact lpx (j + 1) ⟨⟨zy,c9,c9,c9,c9,c9,c9,trivial⟩,⟨⟨_,rfl,(by first | (rw [su bos bot];exact CoO.refl _) | (rw [o0 bos bot,sh,ul bot];exact CoO.refl _) | (rw [o0 bos bot,sh];exact s6 (zm bos)))⟩,u9,u9,trivial⟩⟩
  have h2:=tz2 (au r1 r2);refine w_8 ?_;refine bu (ι:=Unit) ⟨[(1,some _),(2,some _),(3,some _),(4,some _),(8,some _),(9,some _),(10,some _)],[(0,some _),(1,some _)]⟩ ⟨⟨c9,c9,c9,c9,c9,c9,c9,trivial⟩,⟨u9,u9,trivial⟩⟩ (fun _i=>⟨[(13,some (vI (loI ((eqMs (ci l) a b (f0 s j)) a j) ((eqMs (ci l) a b (f0 s j)) b j)))),(14,some (vI (hiI ((eqMs (ci l) a b (f0 s j)) a j) ((eqMs (ci l) a b (f0 s j)) b j))))],[(901,some (.nest 84 3 1 l.length (fun i=>(l.getD i default).length) (mg (eqMs (ci l) a b (f0 s j))) none))]⟩) (fun _i=>True) ?_ ?_
  ·
   refine w_6 ?_;refine hcd (fun h3=>?_) (fun h3=>?_)
   · refine w_6 ?_;exact jnx () ⟨⟨⟨_,rfl,(bw (by simp only [bkw];unfold loI;split <;> omega))⟩,⟨_,rfl,(bw (by simp only [bkw];unfold hiI;split <;> omega))⟩,c9,c9,c9,c9,c9,c9,c9,trivial⟩,⟨u9,u9,u9,trivial⟩⟩
   refine d7 ?_;exact jnx () ⟨⟨⟨_,rfl,(bw (by simp only [bkw];unfold loI;split <;> omega))⟩,⟨_,rfl,(bw (by simp only [bkw];unfold hiI;split <;> omega))⟩,c9,c9,c9,c9,c9,c9,c9,trivial⟩,⟨u9,u9,u9,trivial⟩⟩
  rintro _ _;refine w_5 ?_;refine a6 (ι:=Nat) ⟨[(1,some _),(2,some _),(3,some _),(4,some _),(8,some _),(9,some _),(10,some _),(13,some _),(14,some _)],[(0,some _),(1,some _)]⟩ ⟨⟨c9,c9,c9,c9,c9,c9,c9,c9,c9,trivial⟩,⟨u9,u9,trivial⟩⟩ (fun i=>⟨[(15,some (vI i))],[(901,some (.nest 84 3 1 l.length (fun i=>(l.getD i default).length) (mg (m7 (eqMs (ci l) a b (f0 s j)) (hiI ((eqMs (ci l) a b (f0 s j)) a j) ((eqMs (ci l) a b (f0 s j)) b j)) (loI ((eqMs (ci l) a b (f0 s j)) a j) ((eqMs (ci l) a b (f0 s j)) b j)) i 0)) none))]⟩) (fun i=>i <= l.length) (fun i=>l.length - i) (0) (bkl _) ⟨⟨zy,trivial⟩,⟨⟨_,rfl,(by rw [agi];exact CoO.refl _)⟩,trivial⟩⟩ ?_;rintro i hi;refine w_8 ?_;refine hcd (fun h4=>?_) (fun h4=>?_)
  ·
   have hri:=hrow i bos;refine w_8 ?_;refine a6 (ι:=Nat) ⟨[(1,some _),(2,some _),(3,some _),(4,some _),(8,some _),(9,some _),(10,some _),(13,some _),(14,some _),(15,some _)],[(0,some _),(1,some _)]⟩ ⟨⟨c9,c9,c9,c9,c9,c9,c9,c9,c9,c9,trivial⟩,⟨u9,u9,trivial⟩⟩ (fun k=>⟨[(16,some (vI k))],[(901,some (.nest 84 3 1 l.length (fun i=>(l.getD i default).length) (mg (m7 (eqMs (ci l) a b (f0 s j)) (hiI ((eqMs (ci l) a b (f0 s j)) a j) ((eqMs (ci l) a b (f0 s j)) b j)) (loI ((eqMs (ci l) a b (f0 s j)) a j) ((eqMs (ci l) a b (f0 s j)) b j)) i k)) none))]⟩) (fun k=>k <= n.toNat) (fun k=>n.toNat - k) (0) (bkl _) ⟨⟨zy,trivial⟩,⟨u9,trivial⟩⟩ ?_;rintro k hk;refine w_8 ?_;refine hcd (fun h5=>?_) (fun h5=>?_)
   ·
    refine ce ?_;(iterate 2 refine rq rfl rfl rfl rfl rfl ?_ (hp:=(by (try simp only [bkw,nM]);(repeat' apply And.intro) <;> first | trivial | rfl | omega | exact bkm rfl)));refine w_3 ?_;refine hcd (fun h6=>?_) (fun h6=>?_)
    · refine w_7 ?_;refine rq rfl rfl rfl rfl rfl ?_ (hp:=(by (try simp only [bkw,nM]);(repeat' apply And.intro) <;> first | trivial | rfl | omega | exact bkm rfl));refine rs rfl rfl rfl rfl rfl ?_ (hp:=(by (try simp only [bkw,nM]);(repeat' apply And.intro) <;> first | trivial | rfl | omega | exact bkm rfl));refine w_6 ?_;exact lpx (k + 1) ⟨⟨zy,c9,c9,c9,c9,c9,c9,c9,c9,c9,c9,trivial⟩,⟨⟨_,rfl,(by first | exact a6v (aas bot) bow bow | (rw [abj bot];exact CoO.refl _))⟩,u9,u9,trivial⟩⟩
    refine w_6 ?_;exact lpx (k + 1) ⟨⟨zy,c9,c9,c9,c9,c9,c9,c9,c9,c9,c9,trivial⟩,⟨⟨_,rfl,(by first | exact a6v (aas bot) bow bow | (rw [abj bot];exact CoO.refl _))⟩,u9,u9,trivial⟩⟩
   refine w_6 ?_;exact lpx (i + 1) ⟨⟨zy,c9,c9,c9,c9,c9,c9,c9,c9,c9,trivial⟩,⟨⟨_,rfl,(s6 (al8 bos))⟩,u9,u9,trivial⟩⟩
  refine w_6 ?_;exact lpx (j + 1) ⟨⟨zy,c9,c9,c9,c9,c9,c9,trivial⟩,⟨⟨_,rfl,(by first | (rw [su bos bot];exact CoO.refl _) | (rw [o0 bos bot,sh,ul bot];exact CoO.refl _) | (rw [o0 bos bot,sh];exact s6 (zm bos)))⟩,u9,u9,trivial⟩⟩
 obtain rfl:j = n.toNat:=by omega
 refine w_2 ?_;have hme:=ast (s:=s) (n:=n.toNat) bos hs;refine aob 901 rfl ?_;refine av 9 rfl rfl rfl ?_;refine w_4 ?_;refine rc rfl rfl rfl rfl rfl rfl aes (a9o n (dy l (eqMs (ci l) a b (al s))) (by rw [lr];omega)) (⟨CoC.refl _,CoC.one (by rw [hme];exact b0o rfl),trivial⟩) rfl rfl ?_;refine w_2 ?_;exact hx8 rfl rfl rfl (CoL.refl _)
end
section
open Go.Proofs
theorem b7r:goodFn Tryz.prog 180:=wgx Tryz.func180
theorem bp6 {p:Prop} (h:p:=by first | omega | (simp only [bkw];omega)):p:=h
theorem bpb {p:Prop} (h:p:=by first | exact v7 bos bot bos bos | exact ve (bkv.1 bot)):p:=h
theorem bfn (n:Int) (l:List Rw) (x:Fd) (a b:Nat) (h0:0 <= n) (h1:n <= 16) (hrow:∀ i,i < l.length -> (l.getD i default).length = n.toNat) (hl2:l.length <= 4294967296) (ha:a < l.length) (hb:b < l.length):a7 Tryz.prog 180 [pT n l,x.pc,pI (a:Int),pI (b:Int)] (ae [pT n (ar (l ++ [(dz (l.getD a default) (l.getD b default) (x.lhs ||| x.rhs))]))]):=by
 refine hpx (nt:=51) Tryz.func180 ?_;refine sx7 ?_;refine m9 0 ?_;refine m9 1 ?_;refine m9 2 ?_;refine w_2 ?_;have hra:=hrow a ha;have hrb:=hrow b hb;refine gy ?_;refine m9 3 ?_;refine w_5 ?_;refine r9 4 true ?_;refine w_8 ?_;refine a6 (ι:=Nat) ⟨[(2,some _),(4,some _),(5,some _),(8,some _),(9,some _)],[(0,some _),(1,some _),(2,some _)]⟩ ⟨⟨c9,c9,c9,c9,c9,trivial⟩,⟨u9,u9,u9,trivial⟩⟩ (fun j=>⟨[(10,some (vI j))],[(3,some (.arr true 1 3 (0 + (l.getD b default).length) (lf zC (md (l.getD a default) (l.getD b default) (x.lhs ||| x.rhs) j))))]⟩) (fun j=>j <= n.toNat) (fun j=>n.toNat - j) (0) (bkl _) ⟨⟨zy,trivial⟩,⟨⟨_,rfl,(alm (fun _ _=>rfl))⟩,trivial⟩⟩ ?_;rintro j hj;refine w_8 ?_;refine hcd (fun h0=>?_) (fun h0=>?_)
 ·
  refine cu ?_;refine rc rfl rfl rfl rfl rfl rfl vq (a9k (x.lhs ||| x.rhs) (j:Int)) (⟨cci (by rw [bOr]),CoC.refl _,trivial⟩) rfl rfl ?_;refine aq ?_;refine hcb (fun h1=>?_) (fun h1=>?_)
  · refine w_9 ?_;(iterate 3 refine rq rfl rfl rfl rfl rfl ?_ (hp:=(by (try simp only [bkw,nM]);(repeat' apply And.intro) <;> first | trivial | rfl | omega | exact bkm rfl)));refine rs rfl rfl rfl rfl rfl ?_ (hp:=(by (try simp only [bkw,nM]);(repeat' apply And.intro) <;> first | trivial | rfl | omega | exact bkm rfl));refine w_6 ?_;exact lpx (j + 1) ⟨⟨zy,c9,c9,c9,c9,c9,trivial⟩,⟨⟨_,rfl,bpb⟩,u9,u9,u9,trivial⟩⟩
  refine w_6 ?_;exact lpx (j + 1) ⟨⟨zy,c9,c9,c9,c9,c9,trivial⟩,⟨⟨_,rfl,bpb⟩,u9,u9,u9,trivial⟩⟩
 obtain rfl:j = n.toNat:=by omega
 refine w_2 ?_;refine av 9 rfl rfl rfl ?_;refine w_5 ?_;refine fc9 aee (ai8 l (fun i hi=>by rw [hrow i hi];omega) bos) trivial ?_;refine qy ?_;refine m9 5 ?_;refine r9 6 true ?_;refine gi rfl rfl rfl rfl rfl rfl aes (a7.eat (hcs:=[.one (.p (.raw (.int .i64 n))), .one (.ref 901 (l ++ [(dz (l.getD a default) (l.getD b default) (x.lhs ||| x.rhs))]).length)]) (o1:=[(901, .arr true 1 84 (l ++ [(dz (l.getD a default) (l.getD b default) (x.lhs ||| x.rhs))]).length (lf rC (l ++ [(dz (l.getD a default) (l.getD b default) (x.lhs ||| x.rhs))])))]) (a9o n (l ++ [(dz (l.getD a default) (l.getD b default) (x.lhs ||| x.rhs))]) bp3) rfl (by (repeat' apply And.intro) <;> first | trivial | rfl) (CoL.refl _)) (⟨CoP.refl _,congrArg (HV.ref 901) bow,trivial⟩) ⟨⟨_,rfl,(bz rfl (apd bp6 bp6))⟩,trivial⟩ rfl rfl ?_;refine w_3 ?_;exact hx8 rfl rfl rfl (CoL.refl _)
end
section
open Go.Proofs
theorem b87:goodFn Tryz.prog 228:=wgx Tryz.func228
theorem bhp (n:Int) (l:List Rw) (p m:List Fd) (i a b:Nat) (h0:0 <= n) (h1:n <= 16) (hrow:∀ i,i < l.length -> (l.getD i default).length = n.toNat) (ha:a < l.length) (hb:b < l.length) (hi:i < p.length):a7 Tryz.prog 228 [pT n l,pP (fdl p),pP (fdl m), .agg [.raw (.bool false), .raw (.int .i64 (i:Int)), .raw (.int .i64 (a:Int)), .raw (.int .i64 (b:Int))]] (ae [pB (ey l (p.getD i default) a b)]):=by
 refine hpx (nt:=85) Tryz.func228 ?_;refine sx7 ?_;refine m9 0 ?_;refine m9 1 ?_;refine w_3 ?_;have hra:=hrow a ha;have hrb:=hrow b hb;refine aqj ?_;refine a8 _ rfl (fun _=>?_) (fun e=>by cases e);refine ce ?_;refine qcx a1i (a1p (l.getD a default) (l.getD b default) (p.getD i default).lhs bos bos) ?_;refine qy ?_;refine am rfl rfl (fun r0=>?_) (fun r0=>?_)
 ·
  have h0:=r0;(iterate 8 refine qy ?_ (hg:=(gtt r0)));refine qcx a1i (a1p (l.getD a default) (l.getD b default) (p.getD i default).rhs bos bos) ?_ (hg:=(gtt r0));refine qy ?_ (hg:=(gtt r0));refine w_3 ?_
  exact hx8 rfl rfl rfl (⟨ccb (by first | exact (a4e bot).symm | simp_all [ey]),trivial⟩)
 have h0:=r0;(iterate 10 refine k9 (gft r0) ?_);refine rq rfl rfl rfl rfl rfl ?_ (hp:=r0);refine w_2 ?_
 exact hx8 rfl rfl rfl (⟨ccb (by first | exact (a4e bot).symm | simp_all [ey]),trivial⟩)
theorem bj3 (n:Int) (l:List Rw) (p m:List Fd) (i a b:Nat) (h0:0 <= n) (h1:n <= 16) (hrow:∀ i,i < l.length -> (l.getD i default).length = n.toNat) (ha:a < l.length) (hb:b < l.length) (hi:i < m.length):a7 Tryz.prog 228 [pT n l,pP (fdl p),pP (fdl m), .agg [.raw (.bool true), .raw (.int .i64 (i:Int)), .raw (.int .i64 (a:Int)), .raw (.int .i64 (b:Int))]] (ae [pB (a7a l (m.getD i default) a b)]):=by
 refine hpx (nt:=85) Tryz.func228 ?_;refine sx7 ?_;refine m9 0 ?_;refine m9 1 ?_;refine w_3 ?_;have hra:=hrow a ha;have hrb:=hrow b hb;refine aqj ?_;refine a8 _ rfl (fun e=>by cases e) (fun _=>?_);refine w_8 ?_;refine m9 2 ?_;refine w_9 ?_;refine qcx a1i (a1p (l.getD a default) (l.getD b default) (m.getD i default).lhs bos bos) ?_;refine w_2 ?_;refine hcv (fun h0=>?_) (fun h0=>?_)
 · refine w_4 ?_;exact hx8 rfl rfl rfl (⟨ccb (by unfold a7a;simp_all),trivial⟩)
 refine w_3 ?_;refine m9 3 ?_;refine qy ?_;refine r9 4 true ?_;refine w_8 ?_;refine a6 (ι:=Nat) ⟨[(4,some _),(9,some _),(11,some _),(12,some _)],[(0,some _),(2,some _)]⟩ ⟨⟨c9,c9,c9,c9,trivial⟩,⟨u9,u9,trivial⟩⟩ (fun j=>⟨[(13,some (vI j))],[(3,some (.arr true 1 3 (0 + (l.getD b default).length) (lf zC (md (l.getD a default) (l.getD b default) (m.getD i default).rhs j))))]⟩) (fun j=>j <= n.toNat) (fun j=>n.toNat - j) (0) (bkl _) ⟨⟨zy,trivial⟩,⟨⟨_,rfl,(alm (fun _ _=>rfl))⟩,trivial⟩⟩ ?_;rintro j hj;refine w_8 ?_;refine hcd (fun h1=>?_) (fun h1=>?_)
 ·
  refine w_8 ?_;refine qcx vq (a9k (m.getD i default).rhs (j:Int)) ?_;refine aq ?_;refine hcb (fun h2=>?_) (fun h2=>?_)
  · refine w_5 ?_;(iterate 3 refine rq rfl rfl rfl rfl rfl ?_ (hp:=(by (try simp only [bkw,nM]);(repeat' apply And.intro) <;> first | trivial | rfl | omega | exact bkm rfl)));refine rs rfl rfl rfl rfl rfl ?_ (hp:=(by (try simp only [bkw,nM]);(repeat' apply And.intro) <;> first | trivial | rfl | omega | exact bkm rfl));refine w_6 ?_;exact lpx (j + 1) ⟨⟨zy,c9,c9,c9,c9,trivial⟩,⟨⟨_,rfl,bpb⟩,u9,u9,trivial⟩⟩
  refine w_6 ?_;exact lpx (j + 1) ⟨⟨zy,c9,c9,c9,c9,trivial⟩,⟨⟨_,rfl,bpb⟩,u9,u9,trivial⟩⟩
 obtain rfl:j = n.toNat:=by omega
 refine w_2 ?_;refine av 12 rfl rfl rfl ?_;refine w_3 ?_;refine rc rfl rfl rfl rfl rfl rfl alp (aj6 n l (dz (l.getD a default) (l.getD b default) (m.getD i default).rhs)) (⟨CoC.refl _,apd bp6 bp6,trivial⟩) rfl rfl ?_;refine w_3 ?_;exact hx8 rfl rfl rfl (⟨ccb (by unfold a7a;simp_all),trivial⟩)
end
section
open Go.Proofs
def muK (p:List Fd) (k:Nat):Bool:=decide (p.length <= k)
def ixK (p:List Fd) (k:Nat):Nat:=if p.length <= k then k - p.length else k
def chE (l:List Rw) (p m:List Fd) (s:St):Bool:=if s.1 = true then a7a l (m.getD s.2.1 default) s.2.2.1 s.2.2.2 else ey l (p.getD s.2.1 default) s.2.2.1 s.2.2.2
theorem cCh (n:Int) (l:List Rw) (p m:List Fd) (k a b:Nat) (hT:tok n l = true) (ha:a < l.length) (hb:b < l.length) (hk:k < p.length + m.length) :
 a7 Tryz.prog 228 [pT n l,pP (fdl p),pP (fdl m),St.pc (muK p k,ixK p k,a,b)] (ae [pB (chE l p m (muK p k,ixK p k,a,b))]):=by
 obtain ⟨h0,h1,h2,h3⟩:=jc hT;by_cases h:p.length <= k
 · have e1:muK p k = true:=decide_eq_true h
   have e2:ixK p k = k - p.length:=if_pos h;rw [e1,e2];exact bj3 n l p m (k - p.length) a b h0 h1 h3 ha hb bos
 have e1:muK p k = false:=decide_eq_false h;have e2:ixK p k = k:=if_neg h;rw [e1,e2];exact bhp n l p m k a b h0 h1 h3 ha hb bos
def jf (l:List Rw) (p m:List Fd) (k a b:Nat):Bool:=decide (a ≠ b) && chE l p m (muK p k,ixK p k,a,b)
def a06 (l:List Rw) (p m:List Fd):Option St:=(fl (jf l p m) (p.length + m.length) l.length).map fun x=>(muK p x.1,ixK p x.1,x.2.1,x.2.2)
section
variable {l:List Rw} {p m:List Fd} {k a b:Nat}
theorem b8c (h:¬ a = b) (h2:chE l p m (muK p k,ixK p k,a,b) = true):jf l p m k a b = true:=by unfold jf;rw [decide_eq_true h,h2];rfl
theorem akd (h:a = b):jf l p m k a b = false:=by unfold jf;rw [decide_eq_false (fun e=>e h)];rfl
theorem ai7 (h2:chE l p m (muK p k,ixK p k,a,b) = false):jf l p m k a b = false:=by unfold jf;rw [h2,boq]
theorem b4d (h:fl (jf l p m) (p.length + m.length) l.length = some (k,a,b)):a06 l p m = some (muK p k,ixK p k,a,b):=by unfold a06;rw [h];rfl
theorem b73 (h:fl (jf l p m) (p.length + m.length) l.length = none):a06 l p m = none:=by unfold a06;rw [h];rfl
end
end
section
open Go.Proofs
theorem b94:goodFn Tryz.prog 183:=wgx Tryz.func183
theorem bbc (n:Int) (l:List Rw) (p m:List Fd) (hT:tok n l = true) (hp:p.length <= 64) (hm:m.length <= 64):a7 Tryz.prog 183 [pT n l,pP (fdl p),pP (fdl m)] (ae [St.pc ((a06 l p m).getD (false,0,0,0)),pB (a06 l p m).isSome]):=by
 refine hpx (nt:=66) Tryz.func183 ?_;refine cq ?_;obtain ⟨hn0,hn16,hl256,hrow⟩:=jc hT;refine cb 1 rfl fun hn1=>?_;refine cb 2 rfl fun hn2=>?_;refine gy ?_;refine m9 0 ?_;refine m9 1 ?_;refine w_8 ?_;refine a6 (ι:=Nat) ⟨[(1,some _),(2,some _),(3,some _),(6,some _)],[(0,some _),(1,some _)]⟩ ⟨⟨c9,c9,c9,c9,trivial⟩,⟨u9,u9,trivial⟩⟩ (fun k=>⟨[(8,some (vI k))],[]⟩) (fun k=>k <= p.length + m.length /\ ∀ i',i' < k -> ∀ a',a' < l.length -> ∀ b',b' < l.length -> jf l p m i' a' b' = false) (fun k=>p.length + m.length - k) (0) (⟨bkl _,bq⟩) ⟨⟨zy,trivial⟩,trivial⟩ ?_;rintro k ⟨hk,hK⟩;refine cu ?_;refine hcd (fun h0=>?_) (fun h0=>?_)
 ·
  refine w_7 ?_;refine m9 2 ?_;refine w_2 ?_;refine bu (ι:=Unit) ⟨[(1,some _),(2,some _),(3,some _),(6,some _),(8,some _),(9,some _)],[(0,some _),(1,some _)]⟩ ⟨⟨c9,c9,c9,c9,c9,c9,trivial⟩,⟨u9,u9,trivial⟩⟩ (fun _i=>⟨[],[(2,some (.box [.p (.raw (.bool (muK p k))), .p (.raw (.int .i64 (ixK p k:Int))), .p (.raw (.int .i64 0)), .p (.raw (.int .i64 0))]))]⟩) (fun _i=>True) ?_ ?_
  ·
   refine w_7 ?_;refine hcd (fun h1=>?_) (fun h1=>?_)
   · refine w_8 ?_;exact jnx () ⟨⟨c9,c9,c9,c9,c9,c9,trivial⟩,⟨⟨_,rfl,(by unfold muK ixK;first | (rw [decide_eq_true bos,if_pos bos];refine ⟨CoP.refl _,CoP.of_eq (by congr 2;omega),CoP.refl _,CoP.refl _,trivial⟩) | (rw [decide_eq_false bos,if_neg bos];exact ⟨CoP.refl _,CoP.refl _,CoP.refl _,CoP.refl _,trivial⟩))⟩,u9,u9,trivial⟩⟩
   refine d7 ?_;exact jnx () ⟨⟨c9,c9,c9,c9,c9,c9,trivial⟩,⟨⟨_,rfl,(by unfold muK ixK;first | (rw [decide_eq_true bos,if_pos bos];refine ⟨CoP.refl _,CoP.of_eq (by congr 2;omega),CoP.refl _,CoP.refl _,trivial⟩) | (rw [decide_eq_false bos,if_neg bos];exact ⟨CoP.refl _,CoP.refl _,CoP.refl _,CoP.refl _,trivial⟩))⟩,u9,u9,trivial⟩⟩
  rintro _ _;refine w_6 ?_;refine a6 (ι:=Nat × Nat) ⟨[(1,some _),(2,some _),(3,some _),(6,some _),(8,some _),(9,some _)],[(0,some _),(1,some _)]⟩ ⟨⟨c9,c9,c9,c9,c9,c9,trivial⟩,⟨u9,u9,trivial⟩⟩ (fun y=>⟨[],[(2,some (.box [.p (.raw (.bool (muK p k))), .p (.raw (.int .i64 (ixK p k:Int))), .p (.raw (.int .i64 (y.1:Int))), .p (.raw (.int .i64 (y.2:Int)))]))]⟩) (fun y=>y.1 <= l.length /\ ∀ a',a' < y.1 -> ∀ b',b' < l.length -> jf l p m k a' b' = false) (fun y=>l.length - y.1) ((0,0)) (⟨bkl _,bq⟩) ⟨trivial,⟨u9,trivial⟩⟩ ?_;rintro y ⟨hy,hA⟩;refine ce ?_;refine hcd (fun h2=>?_) (fun h2=>?_)
  ·
   refine w_9 ?_;refine a6 (ι:=Nat) ⟨[(1,some _),(2,some _),(3,some _),(6,some _),(8,some _),(9,some _)],[(0,some _),(1,some _)]⟩ ⟨⟨c9,c9,c9,c9,c9,c9,trivial⟩,⟨u9,u9,trivial⟩⟩ (fun b=>⟨[],[(2,some (.box [.p (.raw (.bool (muK p k))), .p (.raw (.int .i64 (ixK p k:Int))), .p (.raw (.int .i64 (y.1:Int))), .p (.raw (.int .i64 (b:Int)))]))]⟩) (fun b=>b <= l.length /\ ∀ b',b' < b -> jf l p m k y.1 b' = false) (fun b=>l.length - b) (0) (⟨bkl _,bq⟩) ⟨trivial,⟨u9,trivial⟩⟩ ?_;rintro b ⟨hb,hB⟩;refine ce ?_;refine hcd (fun h3=>?_) (fun h3=>?_)
   ·
    refine cu ?_;refine am rfl rfl (fun r4=>?_) (fun r4=>?_)
    ·
     have h4:=tz2 (d6 r4);(iterate 4 refine qy ?_ (hg:=(gtt r4)));refine qcx b87 (cCh n l p m k y.1 b hT bos bos bos) ?_ (hg:=(gtt r4));refine w_2 ?_;refine a8 _ rfl (fun r5=>?_) (fun r5=>?_)
     · have h5:=bp r4 r5;refine w_7 ?_;refine ⟨.inr rfl, ?_⟩;have he:=b4d (a1a (P:=jf l p m) (i:=k) (a:=y.1) (b:=b) bos bos bos (b8c bos bot) hK hA hB);exact f9 rfl rfl (by rw [he];exact CoL.refl _)
     have h5:=bp r4 r5;refine w_8 ?_;refine lpz (b + 1) ⟨⟨c9,c9,c9,c9,c9,c9,trivial⟩,⟨u9,u9,u9,trivial⟩⟩ ?_;exact ⟨by show b + 1 <= _;omega,az hB (by first | exact akd bos | exact ai7 bot)⟩
    have h4:=tz1 (d5 r4);(iterate 5 refine k9 (gft r4) ?_);refine rq rfl rfl rfl rfl rfl ?_ (hp:=r4);refine aq ?_;refine a8 _ rfl (fun e=>by cases e) (fun _=>?_);refine w_8 ?_
    refine lpz (b + 1) ⟨⟨c9,c9,c9,c9,c9,c9,trivial⟩,⟨u9,u9,u9,trivial⟩⟩ ?_;exact ⟨by show b + 1 <= _;omega,az hB (by first | exact akd bos | exact ai7 bot)⟩
   refine w_8 ?_;refine lpz (y.1 + 1,b) ⟨⟨c9,c9,c9,c9,c9,c9,trivial⟩,⟨u9,u9,u9,trivial⟩⟩ ?_;exact ⟨by show y.1 + 1 <= _;omega,az hA (fun b' hb'=>hB b' bos)⟩
  refine w_6 ?_;refine lpz (k + 1) ⟨⟨zy,c9,c9,c9,c9,trivial⟩,⟨u9,u9,trivial⟩⟩ ?_;exact ⟨by show k + 1 <= _;omega,az hK (fun a' ha'=>hA a' bos)⟩
 refine w_8 ?_;refine ⟨.inr rfl, ?_⟩;have he:=b73 (a19 (P:=jf l p m) (I:=p.length + m.length) (L:=l.length) fun j hj=>hK j bos);exact f9 rfl rfl (by rw [he];exact CoL.refl _)
end
section
theorem zb {α:Type} {f g:Nat -> Option α}:∀ {ks:List Nat},(∀ k,k ∈ ks -> f k = g k) -> ks.findSome? f = ks.findSome? g
 | [],_=>rfl
 | k :: ks,h=>by
  have h1:=h k bow;have h2:=zb (ks:=ks) fun j hj=>h j (by simp [hj]);simp only [List.findSome?_cons,h1,h2]
theorem a9s {p q:Nat -> Bool}:∀ {ks:List Nat},(∀ k,k ∈ ks -> p k = q k) -> ks.find? p = ks.find? q
 | [],_=>rfl
 | k :: ks,h=>by
  have h1:=h k bow;have h2:=a9s (ks:=ks) fun j hj=>h j (by simp [hj]);simp only [List.find?_cons,h1,h2]
theorem b97 {s t:AS} {i:Nat}:dq (s ||| t) (i:Int) = (dq s (i:Int) || dq t (i:Int)):=by
 by_cases h:i < 32
 · rw [ja h,ja h,ja h,bm9]
 rw [yj bos,yj bos,yj bos];rfl
theorem b4l {a b:Rw} {s t:AS} (hl:a.length = b.length) (h:kj a b s = true):dz a b t = dz a b (s ||| t):=by
 have h:=of_decide_eq_true h;unfold dz;refine bn1 fun i hi=>?_;have hi:=bl0.1 hi;rw [b97];by_cases h1:dq s (i:Int) = true
 · have:=h i bos h1
   rw [h1,Bool.true_or,if_pos rfl];split
   · rfl
   exact this.symm
 rw [bkv.2 h1,Bool.false_or]
theorem ayf (a:Rw) (s:AS):dz a a s = a:=by
 refine pz (oi a a s) fun j hj=>?_;rw [oi] at hj;unfold dz;rw [bkk,bl6,bm5 hj];show (if dq s (j:Int) = true then a.getD j default else a.getD j default) = _;split <;> rfl
section
variable {a:Nat} {l:List Rw}
theorem a2t {x:Fd}:ey l x a a = false:=aad (a1t fun _ _ _=>rfl)
theorem a3a {x:Fd} (ha:a < l.length):f8 l x a a = false:=by
 refine aab ?_;rw [ayf,bll];exact ⟨_,a2d ha,decide_eq_true rfl⟩
theorem azp {n:Int} {x:Fd} {b:Nat} (hT:tok n l = true) (ha:a < l.length) (hb:b < l.length):a7a l x a b = f8 l x a b:=by
 obtain ⟨_,_,_,h3⟩:=jc hT;unfold a7a f8;by_cases h:kj (l.getD a default) (l.getD b default) x.lhs = true
 · rw [b4l (by rw [h3 a ha,h3 b hb]) h]
 rw [bkv.2 h];rfl
theorem b90 {p m:List Fd} {k b:Nat} (hk:k < p.length):jf l p m k a b = ey l (p.getD k default) a b:=by
 have e1:muK p k = false:=decide_eq_false bos;have e2:ixK p k = k:=if_neg bos;unfold jf;rw [e1,e2];by_cases h:a = b
 · subst h;rw [a2t,decide_eq_false (fun e=>e rfl)];rfl
 rw [decide_eq_true h];rfl
theorem b8s {n:Int} {p m:List Fd} {k b:Nat} (hT:tok n l = true) (ha:a < l.length) (hb:b < l.length):jf l p m (p.length + k) a b = f8 l (m.getD k default) a b:=by
 have e1:muK p (p.length + k) = true:=decide_eq_true bos;have e2:ixK p (p.length + k) = k:=(if_pos bos).trans bos;unfold jf;rw [e1,e2];by_cases h:a = b
 · subst h;rw [a3a ha,decide_eq_false (fun e=>e rfl)];rfl
 rw [decide_eq_true h,<- azp hT ha hb];rfl
theorem a9d {n:Int} {p m:List Fd} (hT:tok n l = true):a06 l p m = eu l p m:=by
 have e1:(List.range p.length).findSome? (fun i=>(List.range l.length).findSome? fun a=>((List.range l.length).find? fun b=>jf l p m i a b).map fun b=>(i,a,b)) = fl (fun i a b=>ey l (p.getD i default) a b) p.length l.length :=
  zb fun i hi=>zb fun a _=>by rw [a9s fun b _=>b90 (bl0.1 hi)]
 have e2:(List.range m.length).findSome? (fun i=>(List.range l.length).findSome? fun a=>((List.range l.length).find? fun b=>jf l p m (p.length + i) a b).map fun b=>(p.length + i,a,b)) = (fl (fun i a b=>f8 l (m.getD i default) a b) m.length l.length).map fun x=>(p.length + x.1,x.2):=by
  unfold fl;rw [List.map_findSome?];refine zb fun i _=>?_;show _ = Option.map _ ((List.range l.length).findSome? _);rw [List.map_findSome?];refine zb fun a ha=>?_;rw [a9s fun b hb=>b8s hT (bl0.1 ha) (bl0.1 hb)];show _ = Option.map _ (Option.map _ _);rw [Option.map_map];rfl
 have e:fl (jf l p m) (p.length + m.length) l.length = (fl (fun i a b=>ey l (p.getD i default) a b) p.length l.length).or ((fl (fun i a b=>f8 l (m.getD i default) a b) m.length l.length).map fun x=>(p.length + x.1,x.2)):=by
  rw [<- e1,<- e2];unfold fl;rw [List.range_add,bor,List.findSome?_map];rfl
 unfold a06 eu;rw [e]
 cases h:fl (fun i a b=>ey l (p.getD i default) a b) p.length l.length with
 | some x =>
  obtain ⟨i,a,b⟩:=x;have hi:=(a3h h).1;show some (muK p i,ixK p i,a,b) = some (false,i,a,b);rw [show muK p i = false from decide_eq_false bos,show ixK p i = i from if_neg bos]
 | none =>
  rw [Option.none_or]
  cases fl (fun i a b=>f8 l (m.getD i default) a b) m.length l.length with
  | none=>rfl
  | some x =>
   obtain ⟨i,a,b⟩:=x;show some (muK p (p.length + i),ixK p (p.length + i),a,b) = some (true,i,a,b);rw [show muK p (p.length + i) = true from decide_eq_true bos,show ixK p (p.length + i) = i from (if_pos bos).trans bos]
end
end
section
def gu (l:List Rw) (p m:List Fd) (mu:Bool) (i a b:Int):Prop:=a < 0 \/ (l.length:Int) <= a \/ b < 0 \/ (l.length:Int) <= b \/ a = b \/ i < 0 \/ (mu = true /\ (m.length:Int) <= i) \/ (mu = false /\ (p.length:Int) <= i)
instance (l:List Rw) (p m:List Fd) (mu:Bool) (i a b:Int):Decidable (gu l p m mu i a b):=by unfold gu;infer_instance
theorem bdS {l:List Rw} {p m:List Fd} {mu:Bool} {i a b:Int} (h:gu l p m mu i a b:=by unfold gu;first | exact .inl bos | exact .inr (.inl bos) | exact .inr (.inr (.inl bos)) | exact .inr (.inr (.inr (.inl bos))) | exact .inr (.inr (.inr (.inr (.inl bos)))) | exact .inr (.inr (.inr (.inr (.inr (.inl bos))))) | exact .inr (.inr (.inr (.inr (.inr (.inr (.inl ⟨by first | rfl | assumption | simp_all,by omega⟩)))))) | exact .inr (.inr (.inr (.inr (.inr (.inr (.inr ⟨by first | rfl | assumption | simp_all,by omega⟩))))))):gu l p m mu i a b:=h
def en (n:Int) (l:List Rw) (p m:List Fd) (mu:Bool) (i a b:Int):Int × List Rw × Int :=
 if ckE n l p m = 0 then if gu l p m mu i a b then (0,[],1) else dx n l p m (mu,i.toNat,a.toNat,b.toNat) else (0,[],ckE n l p m)
section
variable {n:Int} {l:List Rw} {p m:List Fd} {mu:Bool} {i a b:Int}
theorem ahu (h:tok n l = false):en n l p m mu i a b = (0,[],1):=by
 have e:ckE n l p m = 1:=if_neg (by rw [h];decide);unfold en;rw [e];rfl
theorem akl (h:tok n l = true) (h2:¬ c8 n p m = 0):en n l p m mu i a b = (0,[],c8 n p m):=by
 have e:ckE n l p m = c8 n p m:=if_pos h;unfold en;rw [e,if_neg h2]
theorem iw (h:tok n l = true) (h2:c8 n p m = 0) (h3:gu l p m mu i a b):en n l p m mu i a b = (0,[],1):=by
 have e:ckE n l p m = c8 n p m:=if_pos h;unfold en;rw [e,if_pos h2,if_pos h3]
theorem a3m (h:tok n l = true) (h2:c8 n p m = 0) (h3:¬ gu l p m mu i a b):en n l p m mu i a b = dx n l p m (mu,i.toNat,a.toNat,b.toNat):=by
 have e:ckE n l p m = c8 n p m:=if_pos h;unfold en;rw [e,if_pos h2,if_neg h3]
end
end
section
open Go.Proofs
theorem aoq:goodFn Tryz.prog 131:=wgx Tryz.func131
theorem b01 (n:Int) (l:List Rw) (p m:List Fd) (i a b:Int):a7 Tryz.prog 131 [pT n l,pP (fdl p),pP (fdl m), .agg [.raw (.bool true), .raw (.int .i64 i), .raw (.int .i64 a), .raw (.int .i64 b)]] (ae [pT (en n l p m true i a b).1 (en n l p m true i a b).2.1,pI (en n l p m true i a b).2.2]):=by
 refine hpx (nt:=158) Tryz.func131 ?_;refine sx7 ?_;refine m9 0 ?_;refine m9 1 ?_;refine m9 2 ?_;refine w_6 ?_;refine qcx af3 (aa1 n l) ?_;refine w_2 ?_;refine hcv (fun h0=>?_) (fun h0=>?_)
 · refine w_7 ?_;refine ⟨.inr rfl, ?_⟩;have he:=ahu (n:=n) (l:=l) (p:=p) (m:=m) (mu:=true) (i:=i) (a:=a) (b:=b) bp5;exact f9 rfl rfl (by rw [he];exact ⟨CoC.agg ⟨CoP.refl _,bf,trivial⟩,CoC.refl _,trivial⟩)
 have hT:tok n l = true:=by simp_all
 obtain ⟨hn0,hn16,hl256,hrow⟩:=jc hT;refine w_8 ?_;refine qcx aby (a48 n p m) ?_;refine w_7 ?_;refine hcn (fun h1=>?_) (fun h1=>?_)
 · refine w_8 ?_;refine ⟨.inr rfl, ?_⟩;have he:=akl (mu:=true) (i:=i) (a:=a) (b:=b) hT bot;exact f9 rfl rfl (by rw [he];exact ⟨CoC.agg ⟨CoP.refl _,bf,trivial⟩,CoC.refl _,trivial⟩)
 have hbe:c8 n p m = 0:=by assumption
 obtain ⟨_,_,hpl,hpa,hml,_⟩:=kb hbe;refine ku ?_;refine am rfl rfl (fun r2=>?_) (fun r2=>?_)
 ·
  have h2:=tz1 r2;(iterate 4 refine k9 (gtf r2) ?_);refine rq rfl rfl rfl rfl rfl ?_ (hp:=r2);refine qy ?_;(iterate 3 refine k9 rfl ?_);refine w_2 ?_;(iterate 4 refine k9 rfl ?_);refine w_2 ?_;(iterate 5 refine k9 rfl ?_);refine w_2 ?_
  (iterate 3 refine k9 rfl ?_);refine w_2 ?_;(iterate 9 refine k9 rfl ?_);refine w_2 ?_;(iterate 10 refine k9 rfl ?_);refine w_2 ?_;refine a8 _ rfl (fun _=>?_) (fun e=>by cases e);refine w_7 ?_
  refine ⟨.inr rfl, ?_⟩;have he:=iw (mu:=true) (i:=i) (a:=a) (b:=b) hT hbe bdS;exact f9 rfl rfl (by rw [he];exact ⟨CoC.agg ⟨CoP.refl _,bf,trivial⟩,CoC.refl _,trivial⟩)
 have h2:=tz2 r2;(iterate 4 refine qy ?_ (hg:=(gff r2)));refine w_2 ?_;refine am rfl rfl (fun r3=>?_) (fun r3=>?_)
 ·
  have h3:=tz1 (au r2 r3);(iterate 3 refine k9 (gtf r3) ?_);refine rq rfl rfl rfl rfl rfl ?_ (hp:=r3);refine qy ?_;(iterate 4 refine k9 rfl ?_);refine w_2 ?_;(iterate 5 refine k9 rfl ?_);refine w_2 ?_;(iterate 3 refine k9 rfl ?_);refine w_2 ?_
  (iterate 9 refine k9 rfl ?_);refine w_2 ?_;(iterate 10 refine k9 rfl ?_);refine w_2 ?_;refine a8 _ rfl (fun _=>?_) (fun e=>by cases e);refine w_7 ?_;refine ⟨.inr rfl, ?_⟩
  have he:=iw (mu:=true) (i:=i) (a:=a) (b:=b) hT hbe bdS;exact f9 rfl rfl (by rw [he];exact ⟨CoC.agg ⟨CoP.refl _,bf,trivial⟩,CoC.refl _,trivial⟩)
 have h3:=tz2 (au r2 r3);(iterate 3 refine qy ?_ (hg:=(gff r3)));refine w_2 ?_;refine am rfl rfl (fun r4=>?_) (fun r4=>?_)
 ·
  have h4:=tz1 (au r3 r4);(iterate 4 refine k9 (gtf r4) ?_);refine rq rfl rfl rfl rfl rfl ?_ (hp:=r4);refine qy ?_;(iterate 5 refine k9 rfl ?_);refine w_2 ?_;(iterate 3 refine k9 rfl ?_);refine w_2 ?_;(iterate 9 refine k9 rfl ?_);refine w_2 ?_
  (iterate 10 refine k9 rfl ?_);refine w_2 ?_;refine a8 _ rfl (fun _=>?_) (fun e=>by cases e);refine w_7 ?_;refine ⟨.inr rfl, ?_⟩
  have he:=iw (mu:=true) (i:=i) (a:=a) (b:=b) hT hbe bdS;exact f9 rfl rfl (by rw [he];exact ⟨CoC.agg ⟨CoP.refl _,bf,trivial⟩,CoC.refl _,trivial⟩)
 have h4:=tz2 (au r3 r4);(iterate 4 refine qy ?_ (hg:=(gff r4)));refine w_2 ?_;refine am rfl rfl (fun r5=>?_) (fun r5=>?_)
 ·
  have h5:=tz1 (au r4 r5);(iterate 5 refine k9 (gtf r5) ?_);refine rq rfl rfl rfl rfl rfl ?_ (hp:=r5);refine qy ?_;(iterate 3 refine k9 rfl ?_);refine w_2 ?_;(iterate 9 refine k9 rfl ?_);refine w_2 ?_;(iterate 10 refine k9 rfl ?_);refine w_2 ?_
  refine a8 _ rfl (fun _=>?_) (fun e=>by cases e);refine w_7 ?_;refine ⟨.inr rfl, ?_⟩;have he:=iw (mu:=true) (i:=i) (a:=a) (b:=b) hT hbe bdS;exact f9 rfl rfl (by rw [he];exact ⟨CoC.agg ⟨CoP.refl _,bf,trivial⟩,CoC.refl _,trivial⟩)
 have h5:=tz2 (au r4 r5);(iterate 5 refine qy ?_ (hg:=(gff r5)));refine w_2 ?_;refine am rfl rfl (fun r6=>?_) (fun r6=>?_)
 ·
  have h6:=tz1 (au r5 r6);(iterate 3 refine k9 (gtf r6) ?_);refine rq rfl rfl rfl rfl rfl ?_ (hp:=r6);refine qy ?_;(iterate 9 refine k9 rfl ?_);refine w_2 ?_;(iterate 10 refine k9 rfl ?_);refine w_2 ?_
  refine a8 _ rfl (fun _=>?_) (fun e=>by cases e);refine w_7 ?_;refine ⟨.inr rfl, ?_⟩;have he:=iw (mu:=true) (i:=i) (a:=a) (b:=b) hT hbe bdS;exact f9 rfl rfl (by rw [he];exact ⟨CoC.agg ⟨CoP.refl _,bf,trivial⟩,CoC.refl _,trivial⟩)
 have h6:=tz2 (au r5 r6);(iterate 3 refine qy ?_ (hg:=(gff r6)));refine w_2 ?_;refine am rfl rfl (fun r7=>?_) (fun r7=>?_)
 ·
  have h7:=tz1 (au r6 r7);(iterate 3 refine k9 (gtf r7) ?_);(iterate 5 refine k9 rfl ?_);refine k9 (gtf r7) ?_;refine rq rfl rfl rfl rfl rfl ?_ (hp:=r7);refine qy ?_;(iterate 10 refine k9 rfl ?_);refine w_2 ?_
  refine a8 _ rfl (fun _=>?_) (fun e=>by cases e);refine w_7 ?_;refine ⟨.inr rfl, ?_⟩;have he:=iw (mu:=true) (i:=i) (a:=a) (b:=b) hT hbe bdS;exact f9 rfl rfl (by rw [he];exact ⟨CoC.agg ⟨CoP.refl _,bf,trivial⟩,CoC.refl _,trivial⟩)
 have h7:=tz2 (au r6 r7);(iterate 3 refine qy ?_ (hg:=(gff r7)));refine w_5 ?_;refine qy ?_ (hg:=(gff r7));refine w_2 ?_;refine am rfl rfl (fun r8=>?_) (fun r8=>?_)
 ·
  have h8:=tz1 (au r7 r8);(iterate 4 refine k9 (gtf r8) ?_);(iterate 5 refine k9 rfl ?_);refine k9 (gtf r8) ?_;refine rq rfl rfl rfl rfl rfl ?_ (hp:=r8);refine aq ?_;refine a8 _ rfl (fun _=>?_) (fun e=>by cases e);refine w_7 ?_
  refine ⟨.inr rfl, ?_⟩;have he:=iw (mu:=true) (i:=i) (a:=a) (b:=b) hT hbe bdS;exact f9 rfl rfl (by rw [he];exact ⟨CoC.agg ⟨CoP.refl _,bf,trivial⟩,CoC.refl _,trivial⟩)
 have h8:=tz2 (au r7 r8);(iterate 4 refine qy ?_ (hg:=(gff r8)));(iterate 5 refine k9 rfl ?_);refine qy ?_ (hg:=(gff r8));refine w_2 ?_;refine a8 _ rfl (fun e=>Bool.noConfusion ((zf r8 rfl).symm.trans e)) (fun _=>?_);refine w_2 ?_
 have hnb:¬ gu l p m true i a b:=by
  unfold gu;rintro (h | h | h | h | h | h | ⟨h,h2⟩ | ⟨h,h2⟩) <;> first | omega | cases h
 have hap:=a3m (mu:=true) (i:=i) (a:=a) (b:=b) hT hbe hnb;have ha:a.toNat < l.length:=by omega
 have hb:b.toNat < l.length:=by omega
 have hra:=hrow _ ha;have hrb:=hrow _ hb;have hi:i.toNat < m.length:=by omega
 refine gy ?_;refine m9 3 ?_;refine w_7 ?_;refine a8 _ rfl (fun _=>?_) (fun e=>by cases e);refine a69 ?_;refine qcx a1i (a1p (l.getD a.toNat default) (l.getD b.toNat default) (m.getD i.toNat default).lhs bos bos) ?_;refine w_3 ?_;refine hcv (fun h9=>?_) (fun h9=>?_)
 · refine w_7 ?_;refine ⟨.inr rfl, ?_⟩;have he:=hap.trans (show mvE n l a.toNat b.toNat (m.getD i.toNat default) = (0,[],1) from if_neg (bkv.1 bot));exact f9 rfl rfl (by rw [he];exact ⟨CoC.agg ⟨CoP.refl _,bf,trivial⟩,CoC.refl _,trivial⟩)
 refine ef ?_;refine rc rfl rfl rfl rfl rfl rfl b7r (bfn n l (m.getD i.toNat default) a.toNat b.toNat hn0 hn16 hrow bos ha hb) (⟨CoC.refl _,CoC.refl _,cci bos,cci bos,trivial⟩) rfl rfl ?_;refine cu ?_;refine hcd (fun h10=>?_) (fun h10=>?_)
 · refine w_7 ?_;refine ⟨.inr rfl, ?_⟩;have he:=hap.trans (show mvE n l a.toNat b.toNat (m.getD i.toNat default) = (0,[],3) from (if_pos bot).trans (if_pos bos));exact f9 rfl rfl (by rw [he];exact ⟨CoC.agg ⟨CoP.refl _,bf,trivial⟩,CoC.refl _,trivial⟩)
 refine w_8 ?_;refine ⟨.inr rfl, ?_⟩;have he:=hap.trans (show mvE n l a.toNat b.toNat (m.getD i.toNat default) = (n,ar (l ++ [dz (l.getD a.toNat default) (l.getD b.toNat default) ((m.getD i.toNat default).lhs ||| (m.getD i.toNat default).rhs)]),0) from (if_pos bot).trans (if_neg bos));exact f9 rfl rfl (by rw [he];exact CoL.refl _)
theorem b0a (n:Int) (l:List Rw) (p m:List Fd) (i a b:Int):a7 Tryz.prog 131 [pT n l,pP (fdl p),pP (fdl m), .agg [.raw (.bool false), .raw (.int .i64 i), .raw (.int .i64 a), .raw (.int .i64 b)]] (ae [pT (en n l p m false i a b).1 (en n l p m false i a b).2.1,pI (en n l p m false i a b).2.2]):=by
 refine hpx (nt:=158) Tryz.func131 ?_;refine sx7 ?_;refine m9 0 ?_;refine m9 1 ?_;refine m9 2 ?_;refine w_6 ?_;refine qcx af3 (aa1 n l) ?_;refine w_2 ?_;refine hcv (fun h0=>?_) (fun h0=>?_)
 · refine w_7 ?_;refine ⟨.inr rfl, ?_⟩;have he:=ahu (n:=n) (l:=l) (p:=p) (m:=m) (mu:=false) (i:=i) (a:=a) (b:=b) bp5;exact f9 rfl rfl (by rw [he];exact ⟨CoC.agg ⟨CoP.refl _,bf,trivial⟩,CoC.refl _,trivial⟩)
 have hT:tok n l = true:=by simp_all
 obtain ⟨hn0,hn16,hl256,hrow⟩:=jc hT;refine w_8 ?_;refine qcx aby (a48 n p m) ?_;refine w_7 ?_;refine hcn (fun h1=>?_) (fun h1=>?_)
 · refine w_8 ?_;refine ⟨.inr rfl, ?_⟩;have he:=akl (mu:=false) (i:=i) (a:=a) (b:=b) hT bot;exact f9 rfl rfl (by rw [he];exact ⟨CoC.agg ⟨CoP.refl _,bf,trivial⟩,CoC.refl _,trivial⟩)
 have hbe:c8 n p m = 0:=by assumption
 obtain ⟨_,_,hpl,hpa,hml,_⟩:=kb hbe;refine ku ?_;refine am rfl rfl (fun r2=>?_) (fun r2=>?_)
 ·
  have h2:=tz1 r2;(iterate 4 refine k9 (gtf r2) ?_);refine rq rfl rfl rfl rfl rfl ?_ (hp:=r2);refine qy ?_;(iterate 3 refine k9 rfl ?_);refine w_2 ?_;(iterate 4 refine k9 rfl ?_);refine w_2 ?_;(iterate 5 refine k9 rfl ?_);refine w_2 ?_
  (iterate 3 refine k9 rfl ?_);refine w_2 ?_;(iterate 9 refine k9 rfl ?_);refine w_2 ?_;(iterate 10 refine k9 rfl ?_);refine w_2 ?_;refine a8 _ rfl (fun _=>?_) (fun e=>by cases e);refine w_7 ?_
  refine ⟨.inr rfl, ?_⟩;have he:=iw (mu:=false) (i:=i) (a:=a) (b:=b) hT hbe bdS;exact f9 rfl rfl (by rw [he];exact ⟨CoC.agg ⟨CoP.refl _,bf,trivial⟩,CoC.refl _,trivial⟩)
 have h2:=tz2 r2;(iterate 4 refine qy ?_ (hg:=(gff r2)));refine w_2 ?_;refine am rfl rfl (fun r3=>?_) (fun r3=>?_)
 ·
  have h3:=tz1 (au r2 r3);(iterate 3 refine k9 (gtf r3) ?_);refine rq rfl rfl rfl rfl rfl ?_ (hp:=r3);refine qy ?_;(iterate 4 refine k9 rfl ?_);refine w_2 ?_;(iterate 5 refine k9 rfl ?_);refine w_2 ?_;(iterate 3 refine k9 rfl ?_);refine w_2 ?_
  (iterate 9 refine k9 rfl ?_);refine w_2 ?_;(iterate 10 refine k9 rfl ?_);refine w_2 ?_;refine a8 _ rfl (fun _=>?_) (fun e=>by cases e);refine w_7 ?_;refine ⟨.inr rfl, ?_⟩
  have he:=iw (mu:=false) (i:=i) (a:=a) (b:=b) hT hbe bdS;exact f9 rfl rfl (by rw [he];exact ⟨CoC.agg ⟨CoP.refl _,bf,trivial⟩,CoC.refl _,trivial⟩)
 have h3:=tz2 (au r2 r3);(iterate 3 refine qy ?_ (hg:=(gff r3)));refine w_2 ?_;refine am rfl rfl (fun r4=>?_) (fun r4=>?_)
 ·
  have h4:=tz1 (au r3 r4);(iterate 4 refine k9 (gtf r4) ?_);refine rq rfl rfl rfl rfl rfl ?_ (hp:=r4);refine qy ?_;(iterate 5 refine k9 rfl ?_);refine w_2 ?_;(iterate 3 refine k9 rfl ?_);refine w_2 ?_;(iterate 9 refine k9 rfl ?_);refine w_2 ?_
  (iterate 10 refine k9 rfl ?_);refine w_2 ?_;refine a8 _ rfl (fun _=>?_) (fun e=>by cases e);refine w_7 ?_;refine ⟨.inr rfl, ?_⟩
  have he:=iw (mu:=false) (i:=i) (a:=a) (b:=b) hT hbe bdS;exact f9 rfl rfl (by rw [he];exact ⟨CoC.agg ⟨CoP.refl _,bf,trivial⟩,CoC.refl _,trivial⟩)
 have h4:=tz2 (au r3 r4);(iterate 4 refine qy ?_ (hg:=(gff r4)));refine w_2 ?_;refine am rfl rfl (fun r5=>?_) (fun r5=>?_)
 ·
  have h5:=tz1 (au r4 r5);(iterate 5 refine k9 (gtf r5) ?_);refine rq rfl rfl rfl rfl rfl ?_ (hp:=r5);refine qy ?_;(iterate 3 refine k9 rfl ?_);refine w_2 ?_;(iterate 9 refine k9 rfl ?_);refine w_2 ?_;(iterate 10 refine k9 rfl ?_);refine w_2 ?_
  refine a8 _ rfl (fun _=>?_) (fun e=>by cases e);refine w_7 ?_;refine ⟨.inr rfl, ?_⟩;have he:=iw (mu:=false) (i:=i) (a:=a) (b:=b) hT hbe bdS;exact f9 rfl rfl (by rw [he];exact ⟨CoC.agg ⟨CoP.refl _,bf,trivial⟩,CoC.refl _,trivial⟩)
 have h5:=tz2 (au r4 r5);(iterate 5 refine qy ?_ (hg:=(gff r5)));refine w_2 ?_;refine am rfl rfl (fun r6=>?_) (fun r6=>?_)
 ·
  have h6:=tz1 (au r5 r6);(iterate 3 refine k9 (gtf r6) ?_);refine rq rfl rfl rfl rfl rfl ?_ (hp:=r6);refine qy ?_;(iterate 9 refine k9 rfl ?_);refine w_2 ?_;(iterate 10 refine k9 rfl ?_);refine w_2 ?_
  refine a8 _ rfl (fun _=>?_) (fun e=>by cases e);refine w_7 ?_;refine ⟨.inr rfl, ?_⟩;have he:=iw (mu:=false) (i:=i) (a:=a) (b:=b) hT hbe bdS;exact f9 rfl rfl (by rw [he];exact ⟨CoC.agg ⟨CoP.refl _,bf,trivial⟩,CoC.refl _,trivial⟩)
 have h6:=tz2 (au r5 r6);(iterate 3 refine qy ?_ (hg:=(gff r6)));refine w_2 ?_;refine am rfl rfl (fun r7=>?_) (fun r7=>?_)
 ·
  have h7:=tz1 (au r6 r7);(iterate 3 refine k9 (gtf r7) ?_);(iterate 5 refine k9 rfl ?_);refine k9 (gtf r7) ?_;refine rq rfl rfl rfl rfl rfl ?_ (hp:=r7);refine qy ?_;(iterate 10 refine k9 rfl ?_);refine w_2 ?_
  refine a8 _ rfl (fun _=>?_) (fun e=>by cases e);refine w_7 ?_;refine ⟨.inr rfl, ?_⟩;have he:=iw (mu:=false) (i:=i) (a:=a) (b:=b) hT hbe bdS;exact f9 rfl rfl (by rw [he];exact ⟨CoC.agg ⟨CoP.refl _,bf,trivial⟩,CoC.refl _,trivial⟩)
 have h7:=tz2 (au r6 r7);(iterate 3 refine qy ?_ (hg:=(gff r7)));(iterate 5 refine k9 rfl ?_);refine qy ?_ (hg:=(gff r7));refine w_2 ?_;(iterate 4 refine rq rfl rfl rfl rfl (gff (zf r7 rfl)) ?_);refine w_5 ?_
 refine rq rfl rfl rfl rfl (gff (zf r7 rfl)) ?_;refine w_2 ?_;refine a8 _ rfl (fun r8=>?_) (fun r8=>?_)
 · have h8:=tz1 (au (zf r7 rfl) r8);refine w_7 ?_;refine ⟨.inr rfl, ?_⟩;have he:=iw (mu:=false) (i:=i) (a:=a) (b:=b) hT hbe bdS;exact f9 rfl rfl (by rw [he];exact ⟨CoC.agg ⟨CoP.refl _,bf,trivial⟩,CoC.refl _,trivial⟩)
 have h8:=tz2 (au (zf r7 rfl) r8);refine w_2 ?_
 have hnb:¬ gu l p m false i a b:=by
  unfold gu;rintro (h | h | h | h | h | h | ⟨h,h2⟩ | ⟨h,h2⟩) <;> first | omega | cases h
 have hap:=a3m (mu:=false) (i:=i) (a:=a) (b:=b) hT hbe hnb;have ha:a.toNat < l.length:=by omega
 have hb:b.toNat < l.length:=by omega
 have hra:=hrow _ ha;have hrb:=hrow _ hb;have hi:i.toNat < p.length:=by omega
 have hu:inU n (p.getD i.toNat default) = true:=blo.1 hpa _ (by rw [bkk,bkj hi];exact blh hi);refine gy ?_;refine m9 3 ?_;refine w_7 ?_;refine a8 _ rfl (fun e=>by cases e) (fun _=>?_);refine a69 ?_;refine qcx a1i (a1p (l.getD a.toNat default) (l.getD b.toNat default) (p.getD i.toNat default).lhs bos bos) ?_;refine w_3 ?_;refine hcv (fun h9=>?_) (fun h9=>?_)
 · refine w_7 ?_;refine ⟨.inr rfl, ?_⟩;have he:=hap.trans (show fdE n l a.toNat b.toNat (p.getD i.toNat default) = (0,[],1) from if_neg (bkv.1 bot));exact f9 rfl rfl (by rw [he];exact ⟨CoC.agg ⟨CoP.refl _,bf,trivial⟩,CoC.refl _,trivial⟩)
 refine ik ?_;refine rc rfl rfl rfl rfl rfl rfl b9w (azv n l (p.getD i.toNat default).rhs a.toNat b.toNat hn0 hn16 hrow bos ha hb (fun j hj=>a86 hn0 hn16 hu hj)) (⟨CoC.refl _,CoC.refl _,cci bos,cci bos,trivial⟩) rfl rfl ?_;refine cu ?_;refine hcd (fun h10=>?_) (fun h10=>?_)
 · refine w_7 ?_;refine ⟨.inr rfl, ?_⟩;have hx:=bky (zw (dy l (eqMs (ci l) a.toNat b.toNat (al (p.getD i.toNat default).rhs)))) (bnv (lr _ _));exact f9 rfl rfl (by exfalso;omega)
 refine w_8 ?_;refine ⟨.inr rfl, ?_⟩;have he:=hap.trans (show fdE n l a.toNat b.toNat (p.getD i.toNat default) = (n,ar (dy l (eqMs (ci l) a.toNat b.toNat (al (p.getD i.toNat default).rhs))),0) from if_pos bot);exact f9 rfl rfl (by rw [he];exact CoL.refl _)
end
section
open Go.Proofs
theorem atj (l:List Rw) (hl:∀ i,i < l.length -> (l.getD i default).length <= 17592186044416) (hl2:l.length <= 5864062014805):a7 Tryz.prog 182 [pR l] (ae [pR l]) :=
 da.pure (args:=[pR l]) (l:=[.one (.ref 901 l.length)]) (ai8 l hl hl2) rfl ⟨rfl,trivial⟩
theorem age (n:Int) (l:List Rw) (p m:List Fd) (s:St) (hck:ckE n l p m = 0) (h:xf l p m s) :
 a7 Tryz.prog 131 [pT n l,pP (fdl p),pP (fdl m),s.pc] (ae [pT (dx n l p m s).1 (dx n l p m s).2.1,pI (dx n l p m s).2.2]):=by
 obtain ⟨mu,i,a,b⟩:=s;obtain ⟨ha,hb,h⟩:=h;obtain ⟨hT,hbe,_⟩:=abx hck;have ha:a < l.length:=ha;have hb:b < l.length:=hb
 have hne:¬ a = b:=by
  rintro rfl
  rcases h with ⟨_,_,h⟩ | ⟨_,_,h⟩
  · rw [show ey l (p.getD i default) a a = false from a2t] at h;cases h
  rw [show f8 l (m.getD i default) a a = false from a3a ha] at h;cases h
 rcases h with ⟨h1,h2,_⟩ | ⟨h1,h2,_⟩
 · cases h1
   have h2:i < p.length:=h2
   have e:=a3m (mu:=false) (i:=(i:Int)) (a:=(a:Int)) (b:=(b:Int)) hT hbe (by
    unfold gu
    rintro (h | h | h | h | h | h | ⟨h,h3⟩ | ⟨h,h3⟩) <;> first | omega | cases h)
   simp only [bkw] at e;have hh:=b0a n l p m i a b;rw [e] at hh;exact hh
 cases h1;have h2:i < m.length:=h2
 have e:=a3m (mu:=true) (i:=(i:Int)) (a:=(a:Int)) (b:=(b:Int)) hT hbe (by
  unfold gu
  rintro (h | h | h | h | h | h | ⟨h,h3⟩ | ⟨h,h3⟩) <;> first | omega | cases h)
 simp only [bkw] at e;have hh:=b01 n l p m i a b;rw [e] at hh;exact hh
end
end Go.Hx

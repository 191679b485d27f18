/- A part of the proof: X3 X4 Ch4 X5. -/
import Derived.Test.YteklilhbjjofbaaGreatDoorLe19
set_option linter.all false
set_option maxRecDepth 100000
set_option maxHeartbeats 1000000
namespace Go.Hx
section
open Go.Proofs
def ac5:goodFn b65 52:=wgx Tryz.func52
def a6v (n:Int) (l m:List Fd):aa b65 52 [pI n,pP (fdl l),pP (fdl m)] (af [pI (cj n l m)]):=by
 refine hpx (nt:=34) Tryz.func52 ?_;refine dn ?_;refine df 2 rfl fun hn2=>?_;refine w_8 ?_;refine qcx (wgx Tryz.func78) (aus n l) ?_;refine w_7 ?_;refine hcn (fun h0=>?_) (fun h0=>?_)
 · refine v_5 ?_;exact ⟨cci (auf b5i),trivial⟩
 have hv0:dm n l = 0:=by assumption
 obtain ⟨hn0,hn16,_,_⟩:=aer hv0;refine w_8 ?_;refine hcd (fun h1=>?_) (fun h1=>?_)
 · refine v_4 ?_;exact ⟨cci (aua hv0 b5h),trivial⟩
 refine ek ?_;refine c5 (ι:=Unit) kn km (fun _i=>⟨[],[]⟩) (fun _i=>∀ j,j < m.length -> inU n (m.getD j default) = true) ?_ ?_
 ·
  refine w_7 ?_;refine ai (ι:=Nat) (ka 0 (ka 19 (ka 20 kn))) km (fun i=>⟨[(21,some (vI i))],[]⟩) (fun i=>i <= m.length /\ (∀ j,j < i -> inU n (m.getD j default) = true)) (fun i=>m.length - i) (0) (⟨b2n _,bh⟩) kk ?_;rintro i ⟨hi,hI⟩;refine w_5 ?_;refine hcd (fun h2=>?_) (fun h2=>?_)
  ·
   refine w_7 ?_;refine m9 0 ?_;refine j3 ?_;refine hcn (fun h3=>?_) (fun h3=>?_)
   · refine v_4 ?_;exact ⟨cci (atq (i:=i) hv0 b5h b5h (fun e=>absurd (a14.2 e) b5i)),trivial⟩
   refine w_5 ?_;refine lpz (i + 1) kk ?_;exact ⟨by show i + 1 <= _;omega,ax hI (a14.1 b5i)⟩
  refine c6 ?_;refine ⟨(), ?_, ?_⟩
  · exact fun j hj=>hI j b5h
  exact ⟨trivial,trivial⟩
 rintro _ hj;refine v_4 ?_;exact ⟨cci (av9 hv0 b5h hj),trivial⟩
end
section
open Go.Proofs
def yr (i:Nat):((i:Int) - 1).toNat = i - 1:=by omega
def ap7 (n:Int) (l:List Rw):aa b65 128 [pT n l] (af [pB (tok n l)]):=by
 refine hpx (nt:=50) Tryz.func128 ?_;refine sx7 ?_;refine m9 0 ?_;refine w_9 ?_;refine ab rfl rfl (fun r0=>?_) (fun r0=>?_)
 ·
  have h0:=tz1 r0;(iterate 3 refine k9 (gtf r0) ?_);refine w_2 ?_;(iterate 4 refine k9 rfl ?_);refine w_7 ?_
  exact hx8 rfl rfl rfl (⟨ccb (aan b5h).symm,trivial⟩)
 have h0:=tz2 r0;(iterate 3 refine qy ?_ (hg:=(gff r0)));refine w_2 ?_;refine ab rfl rfl (fun r1=>?_) (fun r1=>?_)
 ·
  have h1:=tz1 (ao r0 r1);(iterate 4 refine k9 (gtf r1) ?_);refine w_7 ?_
  exact hx8 rfl rfl rfl (⟨ccb (aan b5h).symm,trivial⟩)
 have h1:=tz2 (ao r0 r1);(iterate 4 refine qy ?_ (hg:=(gff r1)));refine w_2 ?_;refine aj _ rfl (fun r2=>?_) (fun r2=>?_)
 · have h2:=tz1 (ao r1 r2);refine v_4 ?_;exact ⟨ccb (aan b5h).symm,trivial⟩
 have h2:=tz2 (ao r1 r2);refine dy ?_;refine ai (ι:=Nat) (ka 1 (ka 20 (ka 21 kn))) (kb 0 km) (fun i=>⟨[(22,some (vI i))],[]⟩) (fun i=>i <= l.length /\ (∀ j,j < i -> kp n l j = true)) (fun i=>l.length - i) (0) (⟨b2n _,bh⟩) kk ?_;rintro i ⟨hi,hI⟩;refine w_5 ?_;refine hcd (fun h3=>?_) (fun h3=>?_)
 ·
  refine ank ?_;refine ab rfl rfl (fun r4=>?_) (fun r4=>?_)
  ·
   have h4:=tz2 (ec r4);(iterate 2 refine k9 (gtf r4) ?_);refine w_7 ?_
   exact hx8 rfl rfl rfl (⟨ccb (ah8 (i:=i) b5h (by first | exact afm b5i | exact afd b5i | exact a72 b5h (by simp_all [yr]))).symm,trivial⟩)
  have h4:=tz1 (eg r4);refine qy ?_ (hg:=(gff r4));refine qcx (wgx Tryz.func162) (ayb (l.getD i default) 163 0 (fun _=>.any) (fun x=>decide (x < 0)) (wgx Tryz.func163) (fun x=>azf x)) ?_ (hg:=(gff r4));refine w_2 ?_;refine aj _ rfl (fun r5=>?_) (fun r5=>?_)
  · have h5:=ao r4 r5;refine v_4 ?_;exact ⟨ccb (ah8 (i:=i) b5h (by first | exact afm b5i | exact afd b5i | exact a72 b5h (by simp_all [yr]))).symm,trivial⟩
  have h5:=ao r4 r5;refine w_6 ?_;refine ab rfl rfl (fun r6=>?_) (fun r6=>?_)
  ·
   have h6:=tz1 r6;(iterate 7 refine qy ?_ (hg:=(gtt r6)));refine qcx (wgx Tryz.func136) (aod (l.getD ((i:Int) - 1).toNat default) (l.getD i default)) ?_ (hg:=(gtt r6));refine qy ?_ (hg:=(gtt r6));refine w_2 ?_
   refine aj _ rfl (fun r7=>?_) (fun r7=>?_)
   · have h7:=tz1 (b4 r6 r7);refine v_4 ?_;exact ⟨ccb (ah8 (i:=i) b5h (a72 b5h fun e=>absurd (xf.2 e) (by simp only [yr] at *;omega))).symm,trivial⟩
   have h7:=tz2 (b4 r6 r7);refine w_5 ?_;refine lpz (i + 1) kk ?_;exact ⟨by show i + 1 <= _;omega,ax hI (a9i b5i b5i (by first | (exact .inl b5h) | (exact .inr (xf.1 (by simp only [yr] at *;omega)))))⟩
  have h6:=tz2 r6;(iterate 9 refine k9 (gft r6) ?_);refine w_8 ?_;refine lpz (i + 1) kk ?_
  exact ⟨by show i + 1 <= _;omega,ax hI (a9i b5i b5i (by first | (exact .inl b5h) | (exact .inr (xf.1 (by simp only [yr] at *;omega)))))⟩
 refine v_5 ?_;exact ⟨ccb (aob b5h b5h b5h fun j hj=>hI j b5h).symm,trivial⟩
def a9h:goodFn b65 90:=wgx Tryz.func90
def a2u (n:Int) (l:List Rw) (p m:List Fd):aa b65 90 [pT n l,pP (fdl p),pP (fdl m)] (af [pI (if tok n l = true then cj n p m else 1)]):=by
 refine hpx (nt:=15) Tryz.func90 ?_;refine sx7 ?_;refine m9 0 ?_;refine w_6 ?_;refine qcx (wgx Tryz.func128) (ap7 n l) ?_;refine w_2 ?_;refine hcv (fun h0=>?_) (fun h0=>?_)
 · refine v_4 ?_;exact ⟨cci (if_neg b5r).symm,trivial⟩
 refine w_7 ?_;refine qcx ac5 (a6v n p m) ?_;refine v_2 ?_;exact ⟨cci (if_pos b5r).symm,trivial⟩
end
section
def ks (a b:Rw) (s:AS) (i:Nat):Rw:=(List.range b.length).map fun (j:Nat)=>if j < i /\ bt s (j:Int) = true then a.getD j default else b.getD j default
def mi (a b:Rw) (s:AS) (i:Nat):(ks a b s i).length = b.length:=by unfold ks;simp
section
variable {a b:Rw} {i:Nat} {s:AS}
def a5z {k:Nat} (hk:k < b.length):(ks a b s i).getD k default = if k < i /\ bt s (k:Int) = true then a.getD k default else b.getD k default:=by
 unfold ks;rw [b2i,b32,b3j hk];rfl
def ai9 (a b:Rw) (s:AS):b = ks a b s 0:=gh (mi a b s 0).symm fun j hj=>by
 rw [a5z hj,if_neg b5h]
def amg (a b:Rw) (s:AS):ks a b s b.length = dw a b s:=by
 unfold ks dw;refine b4g fun k hk=>?_;have:=b36.1 hk;by_cases h:bt s (k:Int) = true
 · rw [if_pos ⟨this,h⟩,if_pos h]
 rw [if_neg (fun e=>h e.2),if_neg h]
def atp (h:¬ bt s (i:Int) = true):ks a b s i = ks a b s (i + 1):=by
 unfold ks;refine b4g fun k hk=>?_;by_cases h2:k < i /\ bt s (k:Int) = true
 · rw [if_pos h2,if_pos ⟨by omega,h2.2⟩]
 rw [if_neg h2, if_neg fun e => h2 ⟨by rcases b5c (Nat.le_of_lt_succ e.1) with h3 | h3
                                       · exact h3
                                       subst h3;exact absurd e.2 h,e.2⟩]
def auv (hi:i < b.length) (h:bt s (i:Int) = true):(ks a b s i).set i (a.getD i default) = ks a b s (i + 1):=by
 refine gh (by rw [b4h,mi,mi]) fun j hj=>?_;rw [b4h,mi] at hj;rw [a5z hj];by_cases e:j = i
 · subst e
   rw [f4 (by rw [mi];exact hj),if_pos ⟨by omega,h⟩]
 rw [getD_set_ne' e,a5z hj];by_cases h2:j < i /\ bt s (j:Int) = true
 · rw [if_pos h2,if_pos ⟨by omega,h2.2⟩]
 rw [if_neg h2,if_neg fun e2=>h2 ⟨by omega,e2.2⟩]
def jv (a b:Rw) (s:AS):(dw a b s).length = b.length:=by unfold dw;simp
def abp {n:Nat} {k:Nat} (hi:i < b.length) (h:bt s (i:Int) = true) (hn:n = b.length:=by rfl) (hk:k = i:=by rfl):
 CoO (.arr true 1 3 n (da (lf zC (ks a b s i)) k 0 [.raw (.int .i64 (a.getD i default))])) (.arr true 1 3 n (lf zC (ks a b s (i + 1)))):=by
 rw [<- auv hi h];exact aen (fun h=>h) (hn.trans (mi a b s i).symm) hk (by rw [mi];exact hi) rfl
def acs {n:Nat} (h:¬ bt s (i:Int) = true):CoO (.arr true 1 3 n (lf zC (ks a b s i))) (.arr true 1 3 n (lf zC (ks a b s (i + 1)))):=by
 rw [<- atp h];exact CoO.refl _
def aoa {n:Nat} {r:Rw} (h:r.length = n):CoC (.one (.sl n 1 false (lf zC r))) (pZ r):=by subst h;exact CoC.refl _
end
end
section
open Go.Proofs
def a6o:goodFn b65 161:=wgx Tryz.func161
def a6f (n:Nat) (c:Bool) (f:Nat -> Nat -> PV) (hn:n <= 17592186044416) :
 ci b65 161 [.one (.p (.sl n 1 c f))] [] (.v (.one (.ref 0 n))) [(0, .arr true 1 3 n f)] []:=by
 refine hfx (nt:=8) Tryz.func161 ?_;refine sx7 ?_;refine bi true rfl rfl rfl rfl rfl trivial ?_;refine cg ?_;refine vv (ι:=Bool) (fun c=>⟨[(0,some (az (.sl n 1 c f)))],[]⟩) (fun _=>True) ?_ fun c _=>?_
 · rcases b3t n with hz | h0
   · subst hz
     refine hw_exact' 0 rfl fun ad cap hcap=>?_;refine sx7 ?_;(iterate 2 refine bi true rfl rfl rfl rfl rfl trivial ?_);refine cg ?_;refine aj ad.isNone rfl (fun hc=>?_) (fun hc=>?_)
     · refine sx7 ?_
       refine bi true rfl rfl rfl rfl rfl trivial ?_;refine cg ?_;refine gn 2 0 true 1 3 f b5n rfl (CoP.sl rfl (.inr rfl) (fun h=>h) fun i j hi _=>absurd hi (b2o i)) (.inr rfl) rfl ?_;refine hrr ?_;exact ⟨_,_,rfl,trivial,CoR.refl _,uu⟩
     refine ek ?_;exact ⟨false,trivial,⟨⟨_,rfl,CoP.raw_sl hcap⟩,trivial⟩,trivial⟩
   refine sx7 ?_;refine bi true rfl rfl rfl rfl rfl trivial ?_;refine bi true rfl rfl rfl rfl rfl h0 ?_;refine cg ?_;refine aj false rfl (fun hc=>by cases hc) (fun hc=>?_);refine ek ?_;exact ⟨c,trivial,tt,trivial⟩
 refine sx7 ?_;refine sc 0 rfl rfl rfl rfl rfl rfl trivial ?_;refine bi true rfl rfl rfl rfl rfl trivial ?_;refine w9 0 true rfl rfl rfl rfl rfl rfl ⟨trivial,rfl,rfl,rfl, .inl rfl,by show 0 + n <= 9223372036854775807;omega,by show (0 + n) * 8 <= 140737488355328;omega,fun _=>.inl rfl⟩ ?_;refine bi true rfl rfl rfl rfl rfl trivial ?_;refine cg ?_;refine hrr ?_;refine ⟨_,_,rfl,trivial,CoR.of_eq (by show HR.v (.one (.ref 0 (0 + n))) = _;rw [b30]),⟨⟨_,rfl, ?_⟩,trivial⟩⟩;exact ⟨fun h=>h,rfl,rfl,(b30 n).symm,fun i j _ _=>CoP.of_eq (by simp [d8])⟩
def am9 (n:Nat) (c:Bool) (f:Nat -> Nat -> PV) (hn:n <= 17592186044416):aa b65 161 [.one (.sl n 1 c f)] (.v (.one (.sl n 1 false f))) :=
 ci.pure (args:=[.one (.sl n 1 c f)]) (l:=[.one (.ref 0 n)]) (a6f n c f hn) rfl ⟨rfl,trivial⟩
def a6k:goodFn b65 125:=wgx Tryz.func125
def b5j {p:Prop} (h:p:=by (repeat' apply And.intro) <;> first | trivial | exact b2k rfl):p:=h
def aee (n:Int) (l:List Rw) (hl:∀ i,i < l.length -> (l.getD i default).length <= 17592186044416) (hl2:l.length <= 5864062014805):ci b65 125 [.agg [.p (.raw (.int .i64 n)), .p (rl l)]] [] (.v (.agg [.p (.raw (.int .i64 n)), .ref 901 l.length])) [(901, .arr true 1 97 l.length (lf rC l))] []:=by
 refine hfx (nt:=25) Tryz.func125 ?_;refine sx7 ?_;refine m9 0 ?_;refine m9 1 ?_;refine w_6 ?_;refine m9 2 ?_;refine w_2 ?_;refine ep 2 1 901 true 1 97 (lf rC l) b5n rfl rfl (CoP.sl rfl (.inr rfl) (fun h=>h) (fun i j hi _=>absurd hi (b2o i))) (.inr rfl) rfl rfl ?_;refine w_9 ?_;refine c7 (ka 2 (ka 3 (ka 10 (ka 11 kn)))) (kb 1 km) (fun i=>⟨[(12,some (vI i))],[(2,some (.box [.p (.raw (.int .i64 n)), .ref 901 i])),(901,some (.arr true 1 97 i (lf rC l)))]⟩) l.length kk ?_;rintro i hi;refine w_5 ?_;refine hcd (fun h0=>?_) (fun h0=>?_)
 · refine j3 ?_;refine qcx a6o (am9 (l.getD i default).length false (lf zC (l.getD i default)) (hl i b5h)) ?_;refine m9 3 ?_;refine r9 4 true ?_;refine w_8 ?_;exact lpx (i + 1) ⟨tt,⟨u9,⟨_,rfl,(li (fun h=>h) (fun j hj=>by obtain rfl:j = 0:=b5h;exact CoP.refl _))⟩,uu⟩⟩
 obtain rfl:i = l.length:=by omega
 refine w_6 ?_;refine hrr ?_;exact ⟨_,_,rfl,b5j,CoR.refl _,uu⟩
def amm (n:Int) (l:List Rw) (hl:∀ i,i < l.length -> (l.getD i default).length <= 17592186044416) (hl2:l.length <= 5864062014805):aa b65 125 [pT n l] (af [pT n l]) :=
 ci.pure (args:=[pT n l]) (l:=[.agg [.p (.raw (.int .i64 n)), .ref 901 l.length]]) (aee n l hl hl2) rfl ⟨⟨trivial,rfl,trivial⟩,trivial⟩
def ahw (a b:Rw) (s:AS) (h:a.length = b.length) (h16:b.length <= 16):aa b65 132 [pZ a,pZ b,pA s] (af [pZ (dw a b s)]):=by
 refine hpx (nt:=30) Tryz.func132 ?_;refine w_7 ?_;refine fc9 a6o (a6f b.length false (lf zC b) b5h) trivial ?_;refine dy ?_;refine c7 (ka 0 (ka 2 (ka 7 (ka 12 kn)))) km (fun i=>⟨[(13,some (vI i))],[(0,some (.arr true 1 3 b.length (lf zC (ks a b s i))))]⟩) b.length ⟨tt,⟨⟨_,rfl,(CoO.of_eq (by rw [<- ai9]))⟩,trivial⟩⟩ ?_;rintro i hi;refine w_5 ?_;refine hcd (fun h0=>?_) (fun h0=>?_)
 ·
  refine vc ?_;refine hcd (fun h1=>?_) (fun h1=>?_)
  · refine z7 ?_;exact lpx (i + 1) ⟨tt,⟨⟨_,rfl,(by first | exact abp b5h ((lj b5h).1 b5i) | exact acs (fun e=>absurd ((lj b5h).2 e) b5i))⟩,trivial⟩⟩
  refine w_5 ?_;exact lpx (i + 1) ⟨tt,⟨⟨_,rfl,(by first | exact abp b5h ((lj b5h).1 b5i) | exact acs (fun e=>absurd ((lj b5h).2 e) b5i))⟩,trivial⟩⟩
 obtain rfl:i = b.length:=by omega
 refine w_2 ?_;refine cz 7 rfl rfl rfl ?_;refine v_4 ?_;exact ⟨by rw [amg];exact aoa (jv a b s),trivial⟩
end
end Go.Hx

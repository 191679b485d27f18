/- A part of the proof: X3 X4 Ch4 X5. -/
import Derived.Test.YteklilhbjjofbaaGreatDoorLc19
set_option linter.all false
set_option maxRecDepth 100000
set_option maxHeartbeats 1000000
namespace Go.Hx
section
open Go.Proofs
def aqj (n:Int) (s:AS):a8 b6g 57 [pI n,pA s] (ab [pB (decide (sub s (ai n)))]):=by
 refine hpx (nt:=9) Tryz.func57 ?_;refine w_8 ?_;refine qcx w5 (w4 n) ?_;refine qcx (wgx Tryz.func81) (ax5 _ _) ?_;refine v_2 ?_;exact CoL.refl _
def abp:goodFn b6g 52:=wgx Tryz.func52
def a65 (n:Int) (l m:List Fd):a8 b6g 52 [pI n,pP (fdl l),pP (fdl m)] (ab [pI (cg n l m)]):=by
 refine hpx (nt:=34) Tryz.func52 ?_;refine dc ?_;refine ci 2 rfl fun hn2=>?_;refine w_8 ?_;refine qcx (wgx Tryz.func78) (aw6 n l) ?_;refine w_7 ?_;refine hcn (fun h0=>?_) (fun h0=>?_)
 · refine v_5 ?_;exact ⟨cci (awr b5t),trivial⟩
 have hv0:d6 n l = 0:=by assumption
 obtain ⟨hn0,hn16,_,_⟩:=aee hv0;refine w_8 ?_;refine hcd (fun h1=>?_) (fun h1=>?_)
 · refine v_4 ?_;exact ⟨cci (au6 hv0 b5s),trivial⟩
 refine f4 ?_;refine c6 (ι:=Unit) kn km (fun _i=>⟨[],[]⟩) (fun _i=>∀ j,j < m.length -> inU n (m.getD j default) = true) ?_ ?_
 ·
  refine w_7 ?_;refine ah (ι:=Nat) (ka 0 (ka 19 (ka 20 kn))) km (fun i=>⟨[(21,some (vI i))],[]⟩) (fun i=>i <= m.length /\ (∀ j,j < i -> inU n (m.getD j default) = true)) (fun i=>m.length - i) (0) (⟨b2w _,b7⟩) kk ?_;rintro i ⟨hi,hI⟩;refine w_5 ?_;refine hcd (fun h2=>?_) (fun h2=>?_)
  ·
   refine w_7 ?_;refine m9 0 ?_;refine ke ?_;refine hcn (fun h3=>?_) (fun h3=>?_)
   · refine v_4 ?_;exact ⟨cci (aup (i:=i) hv0 b5s b5s (fun e=>absurd (a0m.2 e) b5t)),trivial⟩
   refine w_5 ?_;refine lpz (i + 1) kk ?_;exact ⟨by show i + 1 <= _;omega,av hI (a0m.1 b5t)⟩
  refine c4 ?_;refine ⟨(), ?_, ?_⟩
  · exact fun j hj=>hI j b5s
  exact ⟨trivial,trivial⟩
 rintro _ hj;refine v_4 ?_;exact ⟨cci (ak2 hv0 b5s hj),trivial⟩
end
section
open Go.Proofs
def zb (i:Nat):((i:Int) - 1).toNat = i - 1:=by omega
def arc (n:Int) (l:List Rw):a8 b6g 128 [pT n l] (ab [pB (tok n l)]):=by
 refine hpx (nt:=50) Tryz.func128 ?_;refine sx7 ?_;refine m9 0 ?_;refine w_9 ?_;refine ae rfl rfl (fun r0=>?_) (fun r0=>?_)
 ·
  have h0:=tz1 r0;(iterate 3 refine k9 (gtf r0) ?_);refine w_2 ?_;(iterate 4 refine k9 rfl ?_);refine w_7 ?_
  exact hx8 rfl rfl rfl (⟨ccb (a9b b5s).symm,trivial⟩)
 have h0:=tz2 r0;(iterate 3 refine qy ?_ (hg:=(gff r0)));refine w_2 ?_;refine ae rfl rfl (fun r1=>?_) (fun r1=>?_)
 ·
  have h1:=tz1 (ar r0 r1);(iterate 4 refine k9 (gtf r1) ?_);refine w_7 ?_
  exact hx8 rfl rfl rfl (⟨ccb (a9b b5s).symm,trivial⟩)
 have h1:=tz2 (ar r0 r1);(iterate 4 refine qy ?_ (hg:=(gff r1)));refine w_2 ?_;refine am _ rfl (fun r2=>?_) (fun r2=>?_)
 · have h2:=tz1 (ar r1 r2);refine v_4 ?_;exact ⟨ccb (a9b b5s).symm,trivial⟩
 have h2:=tz2 (ar r1 r2);refine dq ?_;refine ah (ι:=Nat) (ka 1 (ka 20 (ka 21 kn))) (kb 0 km) (fun i=>⟨[(22,some (vI i))],[]⟩) (fun i=>i <= l.length /\ (∀ j,j < i -> kz n l j = true)) (fun i=>l.length - i) (0) (⟨b2w _,b7⟩) kk ?_;rintro i ⟨hi,hI⟩;refine w_5 ?_;refine hcd (fun h3=>?_) (fun h3=>?_)
 ·
  refine anf ?_;refine ae rfl rfl (fun r4=>?_) (fun r4=>?_)
  ·
   have h4:=tz2 (ez r4);(iterate 2 refine k9 (gtf r4) ?_);refine w_7 ?_
   exact hx8 rfl rfl rfl (⟨ccb (ago (i:=i) b5s (by first | exact aeh b5t | exact aev b5t | exact a58 b5s (by simp_all [zb]))).symm,trivial⟩)
  have h4:=tz1 (f0 r4);refine qy ?_ (hg:=(gff r4));refine qcx (wgx Tryz.func162) (azx (l.getD i default) 163 0 (fun _=>.any) (fun x=>decide (x < 0)) (wgx Tryz.func163) (fun x=>azg x)) ?_ (hg:=(gff r4));refine w_2 ?_;refine am _ rfl (fun r5=>?_) (fun r5=>?_)
  · have h5:=ar r4 r5;refine v_4 ?_;exact ⟨ccb (ago (i:=i) b5s (by first | exact aeh b5t | exact aev b5t | exact a58 b5s (by simp_all [zb]))).symm,trivial⟩
  have h5:=ar r4 r5;refine w_6 ?_;refine ae rfl rfl (fun r6=>?_) (fun r6=>?_)
  ·
   have h6:=tz1 r6;(iterate 7 refine qy ?_ (hg:=(gtt r6)));refine qcx (wgx Tryz.func136) (aox (l.getD ((i:Int) - 1).toNat default) (l.getD i default)) ?_ (hg:=(gtt r6));refine qy ?_ (hg:=(gtt r6));refine w_2 ?_
   refine am _ rfl (fun r7=>?_) (fun r7=>?_)
   · have h7:=tz1 (bp r6 r7);refine v_4 ?_;exact ⟨ccb (ago (i:=i) b5s (a58 b5s fun e=>absurd (xm.2 e) (by simp only [zb] at *;omega))).symm,trivial⟩
   have h7:=tz2 (bp r6 r7);refine w_5 ?_;refine lpz (i + 1) kk ?_;exact ⟨by show i + 1 <= _;omega,av hI (a9k b5t b5t (by first | (exact .inl b5s) | (exact .inr (xm.1 (by simp only [zb] at *;omega)))))⟩
  have h6:=tz2 r6;(iterate 9 refine k9 (gft r6) ?_);refine w_8 ?_;refine lpz (i + 1) kk ?_
  exact ⟨by show i + 1 <= _;omega,av hI (a9k b5t b5t (by first | (exact .inl b5s) | (exact .inr (xm.1 (by simp only [zb] at *;omega)))))⟩
 refine v_5 ?_;exact ⟨ccb (aoe b5s b5s b5s fun j hj=>hI j b5s).symm,trivial⟩
def ab7:goodFn b6g 90:=wgx Tryz.func90
def a2s (n:Int) (l:List Rw) (p m:List Fd):a8 b6g 90 [pT n l,pP (fdl p),pP (fdl m)] (ab [pI (if tok n l = true then cg n p m else 1)]):=by
 refine hpx (nt:=15) Tryz.func90 ?_;refine sx7 ?_;refine m9 0 ?_;refine w_6 ?_;refine qcx (wgx Tryz.func128) (arc n l) ?_;refine w_2 ?_;refine hcv (fun h0=>?_) (fun h0=>?_)
 · refine v_4 ?_;exact ⟨cci (if_neg b62).symm,trivial⟩
 refine w_7 ?_;refine qcx abp (a65 n p m) ?_;refine v_2 ?_;exact ⟨cci (if_pos b62).symm,trivial⟩
end
section
def kr (a b:Rw) (s:AS) (i:Nat):Rw:=(List.range b.length).map fun (j:Nat)=>if j < i /\ bm s (j:Int) = true then a.getD j default else b.getD j default
def my (a b:Rw) (s:AS) (i:Nat):(kr a b s i).length = b.length:=by unfold kr;simp
section
variable {a b:Rw} {i:Nat} {s:AS}
def a5t {k:Nat} (hk:k < b.length):(kr a b s i).getD k default = if k < i /\ bm s (k:Int) = true then a.getD k default else b.getD k default:=by
 unfold kr;rw [b2r,b35,b3t hk];rfl
def ak4 (a b:Rw) (s:AS):b = kr a b s 0:=k6 (my a b s 0).symm fun j hj=>by
 rw [a5t hj,if_neg b5s]
def amf (a b:Rw) (s:AS):kr a b s b.length = d7 a b s:=by
 unfold kr d7;refine b4s fun k hk=>?_;have:=b3e.1 hk;by_cases h:bm s (k:Int) = true
 · rw [if_pos ⟨this,h⟩,if_pos h]
 rw [if_neg (fun e=>h e.2),if_neg h]
def awd (h:¬ bm s (i:Int) = true):kr a b s i = kr a b s (i + 1):=by
 unfold kr;refine b4s fun k hk=>?_;by_cases h2:k < i /\ bm s (k:Int) = true
 · rw [if_pos h2,if_pos ⟨by omega,h2.2⟩]
 rw [if_neg h2, if_neg fun e => h2 ⟨by rcases b5l (Nat.le_of_lt_succ e.1) with h3 | h3
                                       · exact h3
                                       subst h3;exact absurd e.2 h,e.2⟩]
def awm (hi:i < b.length) (h:bm s (i:Int) = true):(kr a b s i).set i (a.getD i default) = kr a b s (i + 1):=by
 refine k6 (by rw [b57,my,my]) fun j hj=>?_;rw [b57,my] at hj;rw [a5t hj];by_cases e:j = i
 · subst e
   rw [ge (by rw [my];exact hj),if_pos ⟨by omega,h⟩]
 rw [getD_set_ne' e,a5t hj];by_cases h2:j < i /\ bm s (j:Int) = true
 · rw [if_pos h2,if_pos ⟨by omega,h2.2⟩]
 rw [if_neg h2,if_neg fun e2=>h2 ⟨by omega,e2.2⟩]
def it (a b:Rw) (s:AS):(d7 a b s).length = b.length:=by unfold d7;simp
def aa1 {n:Nat} {k:Nat} (hi:i < b.length) (h:bm s (i:Int) = true) (hn:n = b.length:=by rfl) (hk:k = i:=by rfl):
 CoO (.arr true 1 3 n (ej (lf zC (kr a b s i)) k 0 [.raw (.int .i64 (a.getD i default))])) (.arr true 1 3 n (lf zC (kr a b s (i + 1)))):=by
 rw [<- awm hi h];exact a6b (fun h=>h) (hn.trans (my a b s i).symm) hk (by rw [my];exact hi) rfl
def a9r {n:Nat} (h:¬ bm s (i:Int) = true):CoO (.arr true 1 3 n (lf zC (kr a b s i))) (.arr true 1 3 n (lf zC (kr a b s (i + 1)))):=by
 rw [<- awd h];exact CoO.refl _
def aoa {n:Nat} {r:Rw} (h:r.length = n):CoC (.one (.sl n 1 false (lf zC r))) (pZ r):=by subst h;exact CoC.refl _
end
end
section
open Go.Proofs
def a5w:goodFn b6g 161:=wgx Tryz.func161
def a5v (n:Nat) (c:Bool) (f:Nat -> Nat -> PV) (hn:n <= 17592186044416) :
 cw b6g 161 [.one (.p (.sl n 1 c f))] [] (.v (.one (.ref 0 n))) [(0, .arr true 1 3 n f)] []:=by
 refine hfx (nt:=8) Tryz.func161 ?_;refine sx7 ?_;refine c0 true rfl rfl rfl rfl rfl trivial ?_;refine da ?_;refine a0e (ι:=Bool) (fun c=>⟨[(0,some (b4 (.sl n 1 c f)))],[]⟩) (fun _=>True) ?_ fun c _=>?_
 · rcases b46 n with hz | h0
   · subst hz
     refine hw_exact' 0 rfl fun ad cap hcap=>?_;refine sx7 ?_;(iterate 2 refine c0 true rfl rfl rfl rfl rfl trivial ?_);refine da ?_;refine am ad.isNone rfl (fun hc=>?_) (fun hc=>?_)
     · refine sx7 ?_
       refine c0 true rfl rfl rfl rfl rfl trivial ?_;refine da ?_;refine gm 2 0 true 1 3 f b5x rfl (CoP.sl rfl (.inr rfl) (fun h=>h) fun i j hi _=>absurd hi (b2y i)) (.inr rfl) rfl ?_;refine hrr ?_;exact ⟨_,_,rfl,trivial,CoR.refl _,uu⟩
     refine f4 ?_;exact ⟨false,trivial,⟨⟨_,rfl,CoP.raw_sl hcap⟩,trivial⟩,trivial⟩
   refine sx7 ?_;refine c0 true rfl rfl rfl rfl rfl trivial ?_;refine c0 true rfl rfl rfl rfl rfl h0 ?_;refine da ?_;refine am false rfl (fun hc=>by cases hc) (fun hc=>?_);refine f4 ?_;exact ⟨c,trivial,tt,trivial⟩
 refine sx7 ?_;refine vm 0 rfl rfl rfl rfl rfl rfl trivial ?_;refine c0 true rfl rfl rfl rfl rfl trivial ?_;refine yn 0 true rfl rfl rfl rfl rfl rfl ⟨trivial,rfl,rfl,rfl, .inl rfl,by show 0 + n <= 9223372036854775807;omega,by show (0 + n) * 8 <= 140737488355328;omega,fun _=>.inl rfl⟩ ?_;refine c0 true rfl rfl rfl rfl rfl trivial ?_;refine da ?_;refine hrr ?_;refine ⟨_,_,rfl,trivial,CoR.of_eq (by show HR.v (.one (.ref 0 (0 + n))) = _;rw [b3d]),⟨⟨_,rfl, ?_⟩,trivial⟩⟩;exact ⟨fun h=>h,rfl,rfl,(b3d n).symm,fun i j _ _=>CoP.of_eq (by simp [dm])⟩
def amr (n:Nat) (c:Bool) (f:Nat -> Nat -> PV) (hn:n <= 17592186044416):a8 b6g 161 [.one (.sl n 1 c f)] (.v (.one (.sl n 1 false f))) :=
 cw.pure (args:=[.one (.sl n 1 c f)]) (l:=[.one (.ref 0 n)]) (a5v n c f hn) rfl ⟨rfl,trivial⟩
def a5h:goodFn b6g 125:=wgx Tryz.func125
def b5u {p:Prop} (h:p:=by (repeat' apply And.intro) <;> first | trivial | exact b2u rfl):p:=h
def af4 (n:Int) (l:List Rw) (hl:∀ i,i < l.length -> (l.getD i default).length <= 17592186044416) (hl2:l.length <= 5864062014805):cw b6g 125 [.agg [.p (.raw (.int .i64 n)), .p (rl l)]] [] (.v (.agg [.p (.raw (.int .i64 n)), .ref 901 l.length])) [(901, .arr true 1 97 l.length (lf rC l))] []:=by
 refine hfx (nt:=25) Tryz.func125 ?_;refine sx7 ?_;refine m9 0 ?_;refine m9 1 ?_;refine w_6 ?_;refine m9 2 ?_;refine w_2 ?_;refine dg 2 1 901 true 1 97 (lf rC l) b5x rfl rfl (CoP.sl rfl (.inr rfl) (fun h=>h) (fun i j hi _=>absurd hi (b2y i))) (.inr rfl) rfl rfl ?_;refine w_9 ?_;refine cj (ka 2 (ka 3 (ka 10 (ka 11 kn)))) (kb 1 km) (fun i=>⟨[(12,some (vI i))],[(2,some (.box [.p (.raw (.int .i64 n)), .ref 901 i])),(901,some (.arr true 1 97 i (lf rC l)))]⟩) l.length kk ?_;rintro i hi;refine w_5 ?_;refine hcd (fun h0=>?_) (fun h0=>?_)
 · refine ke ?_;refine qcx a5w (amr (l.getD i default).length false (lf zC (l.getD i default)) (hl i b5s)) ?_;refine m9 3 ?_;refine r9 4 true ?_;refine w_8 ?_;exact lpx (i + 1) ⟨tt,⟨u9,⟨_,rfl,(jz (fun h=>h) (fun j hj=>by obtain rfl:j = 0:=b5s;exact CoP.refl _))⟩,uu⟩⟩
 obtain rfl:i = l.length:=by omega
 refine w_6 ?_;refine hrr ?_;exact ⟨_,_,rfl,b5u,CoR.refl _,uu⟩
def amy (n:Int) (l:List Rw) (hl:∀ i,i < l.length -> (l.getD i default).length <= 17592186044416) (hl2:l.length <= 5864062014805):a8 b6g 125 [pT n l] (ab [pT n l]) :=
 cw.pure (args:=[pT n l]) (l:=[.agg [.p (.raw (.int .i64 n)), .ref 901 l.length]]) (af4 n l hl hl2) rfl ⟨⟨trivial,rfl,trivial⟩,trivial⟩
def air (a b:Rw) (s:AS) (h:a.length = b.length) (h16:b.length <= 16):a8 b6g 132 [pZ a,pZ b,pA s] (ab [pZ (d7 a b s)]):=by
 refine hpx (nt:=30) Tryz.func132 ?_;refine w_7 ?_;refine fc9 a5w (a5v b.length false (lf zC b) b5s) trivial ?_;refine dq ?_;refine cj (ka 0 (ka 2 (ka 7 (ka 12 kn)))) km (fun i=>⟨[(13,some (vI i))],[(0,some (.arr true 1 3 b.length (lf zC (kr a b s i))))]⟩) b.length ⟨tt,⟨⟨_,rfl,(CoO.of_eq (by rw [<- ak4]))⟩,trivial⟩⟩ ?_;rintro i hi;refine w_5 ?_;refine hcd (fun h0=>?_) (fun h0=>?_)
 ·
  refine tk ?_;refine hcd (fun h1=>?_) (fun h1=>?_)
  · refine up ?_;exact lpx (i + 1) ⟨tt,⟨⟨_,rfl,(by first | exact aa1 b5s ((lc b5s).1 b5t) | exact a9r (fun e=>absurd ((lc b5s).2 e) b5t))⟩,trivial⟩⟩
  refine w_5 ?_;exact lpx (i + 1) ⟨tt,⟨⟨_,rfl,(by first | exact aa1 b5s ((lc b5s).1 b5t) | exact a9r (fun e=>absurd ((lc b5s).2 e) b5t))⟩,trivial⟩⟩
 obtain rfl:i = b.length:=by omega
 refine w_2 ?_;refine c3 7 rfl rfl rfl ?_;refine v_4 ?_;exact ⟨by rw [amf];exact aoa (it a b s),trivial⟩
end
end Go.Hx

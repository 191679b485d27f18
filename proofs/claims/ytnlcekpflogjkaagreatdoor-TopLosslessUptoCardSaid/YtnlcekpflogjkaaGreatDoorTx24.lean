/- A part of the proof: X4 Ch4 X5. -/
import Derived.Test.YtnlcekpflogjkaaGreatDoorTx23
set_option linter.all false
set_option maxRecDepth 100000
namespace Go.Hx
section
open Go.Proofs
def a7j (i:Nat):((i:Int) - 1).toNat = i - 1:=by omega
def bcs (n:Int) (l:List Rw):a6 bw0 192 [pT n l] (af [pB (tok n l)]):=by
 refine hpx (nt:=50) Tryz.func192 ?_;refine sx7 ?_;refine m9 0 ?_;refine w_9 ?_;refine aw rfl rfl (fun r0=>?_) (fun r0=>?_)
 ·
  have h0:=tz1 r0;(iterate 3 refine k9 (gtf r0) ?_);refine w_2 ?_;(iterate 4 refine k9 rfl ?_);refine w_7 ?_
  exact hx8 rfl rfl rfl (⟨ccb (ani bv9).symm,trivial⟩)
 have h0:=tz2 r0;(iterate 3 refine qy ?_ (hg:=(gff r0)));refine w_2 ?_;refine aw rfl rfl (fun r1=>?_) (fun r1=>?_)
 ·
  have h1:=tz1 (be r0 r1);(iterate 4 refine k9 (gtf r1) ?_);refine w_7 ?_
  exact hx8 rfl rfl rfl (⟨ccb (ani bv9).symm,trivial⟩)
 have h1:=tz2 (be r0 r1);(iterate 4 refine qy ?_ (hg:=(gff r1)));refine w_2 ?_;refine au _ rfl (fun r2=>?_) (fun r2=>?_)
 · have h2:=tz1 (be r1 r2);refine v_4 ?_;exact ⟨ccb (ani bv9).symm,trivial⟩
 have h2:=tz2 (be r1 r2);refine dc ?_;refine ah (ι:=Nat) (ka 1 (ka 20 (ka 21 kn))) (kb 0 km) (fun i=>⟨[(22,some (vI i))],[]⟩) (fun i=>i <= l.length /\ (∀ j,j < i -> pn n l j = true)) (fun i=>l.length - i) (0) (⟨bre _,c7⟩) kk ?_;rintro i ⟨hi,hI⟩;refine w_5 ?_;refine hcd (fun h3=>?_) (fun h3=>?_)
 ·
  refine al3 ?_;refine aw rfl rfl (fun r4=>?_) (fun r4=>?_)
  ·
   have h4:=tz2 (eg r4);(iterate 2 refine k9 (gtf r4) ?_);refine w_7 ?_
   exact hx8 rfl rfl rfl (⟨ccb (av4 (i:=i) bv9 (by first | exact atb bva | exact aso bva | exact aft bv9 (by simp_all [a7j]))).symm,trivial⟩)
  have h4:=tz1 (ek r4);refine qy ?_ (hg:=(gff r4));refine qcx (wgx Tryz.func233) (bo2 (l.getD i default) 234 0 (fun _=>.any) (fun x=>decide (x < 0)) (wgx Tryz.func234) (fun x=>bno x)) ?_ (hg:=(gff r4));refine w_2 ?_;refine au _ rfl (fun r5=>?_) (fun r5=>?_)
  · have h5:=be r4 r5;refine v_4 ?_;exact ⟨ccb (av4 (i:=i) bv9 (by first | exact atb bva | exact aso bva | exact aft bv9 (by simp_all [a7j]))).symm,trivial⟩
  have h5:=be r4 r5;refine w_6 ?_;refine aw rfl rfl (fun r6=>?_) (fun r6=>?_)
  ·
   have h6:=tz1 r6;(iterate 7 refine qy ?_ (hg:=(gtt r6)));refine qcx (wgx Tryz.func198) (b7x (l.getD ((i:Int) - 1).toNat default) (l.getD i default)) ?_ (hg:=(gtt r6));refine qy ?_ (hg:=(gtt r6));refine w_2 ?_
   refine au _ rfl (fun r7=>?_) (fun r7=>?_)
   · have h7:=tz1 (ck r6 r7);refine v_4 ?_;exact ⟨ccb (av4 (i:=i) bv9 (aft bv9 fun e=>absurd (a4p.2 e) (by simp only [a7j] at *;omega))).symm,trivial⟩
   have h7:=tz2 (ck r6 r7);refine w_5 ?_;refine lpz (i + 1) kk ?_;exact ⟨by show i + 1 <= _;omega,bo hI (apm bva bva (by first | (exact .inl bv9) | (exact .inr (a4p.1 (by simp only [a7j] at *;omega)))))⟩
  have h6:=tz2 r6;(iterate 9 refine k9 (gft r6) ?_);refine w_8 ?_;refine lpz (i + 1) kk ?_
  exact ⟨by show i + 1 <= _;omega,bo hI (apm bva bva (by first | (exact .inl bv9) | (exact .inr (a4p.1 (by simp only [a7j] at *;omega)))))⟩
 refine v_5 ?_;exact ⟨ccb (b8i bv9 bv9 bv9 fun j hj=>hI j bv9).symm,trivial⟩
def agr:goodFn bw0 146:=wgx Tryz.func146
def ac8 (n:Int) (l:List Rw) (p m:List Fd):a6 bw0 146 [pT n l,pP (fdl p),pP (fdl m)] (af [pI (if tok n l = true then dv n p m else 1)]):=by
 refine hpx (nt:=15) Tryz.func146 ?_;refine sx7 ?_;refine m9 0 ?_;refine w_6 ?_;refine qcx (wgx Tryz.func192) (bcs n l) ?_;refine w_2 ?_;refine hcv (fun h0=>?_) (fun h0=>?_)
 · refine v_4 ?_;exact ⟨cci (if_neg bvl).symm,trivial⟩
 refine w_7 ?_;refine qcx anu (ah5 n p m) ?_;refine v_2 ?_;exact ⟨cci (if_pos bvl).symm,trivial⟩
end
section
def py (a b:Rw) (s:AS) (i:Nat):Rw:=(List.range b.length).map fun (j:Nat)=>if j < i /\ c8 s (j:Int) = true then a.getD j default else b.getD j default
def tq (a b:Rw) (s:AS) (i:Nat):(py a b s i).length = b.length:=by unfold py;simp
section
variable {a b:Rw} {i:Nat} {s:AS}
def afn {k:Nat} (hk:k < b.length):(py a b s i).getD k default = if k < i /\ c8 s (k:Int) = true then a.getD k default else b.getD k default:=by
 unfold py;rw [brc,brx,bsq hk];rfl
def b1h (a b:Rw) (s:AS):b = py a b s 0:=o5 (tq a b s 0).symm fun j hj=>by
 rw [afn hj,if_neg bv9]
def b54 (a b:Rw) (s:AS):py a b s b.length = fp a b s:=by
 unfold py fp;refine btx fun k hk=>?_;have:=brw.1 hk;by_cases h:c8 s (k:Int) = true
 · rw [if_pos ⟨this,h⟩,if_pos h]
 rw [if_neg (fun e=>h e.2),if_neg h]
def bgd (h:¬ c8 s (i:Int) = true):py a b s i = py a b s (i + 1):=by
 unfold py;refine btx fun k hk=>?_;by_cases h2:k < i /\ c8 s (k:Int) = true
 · rw [if_pos h2,if_pos ⟨by omega,h2.2⟩]
 rw [if_neg h2, if_neg fun e => h2 ⟨by rcases btr (buo e.1) with h3 | h3
                                       · exact h3
                                       subst h3;exact absurd e.2 h,e.2⟩]
def bhb (hi:i < b.length) (h:c8 s (i:Int) = true):(py a b s i).set i (a.getD i default) = py a b s (i + 1):=by
 refine o5 (by rw [btl,tq,tq]) fun j hj=>?_;rw [btl,tq] at hj;rw [afn hj];by_cases e:j = i
 · subst e
   rw [nb (by rw [tq];exact hj),if_pos ⟨by omega,h⟩]
 rw [getD_set_ne' e,afn hj];by_cases h2:j < i /\ c8 s (j:Int) = true
 · rw [if_pos h2,if_pos ⟨by omega,h2.2⟩]
 rw [if_neg h2,if_neg fun e2=>h2 ⟨by omega,e2.2⟩]
def mt (a b:Rw) (s:AS):(fp a b s).length = b.length:=by unfold fp;simp
def anr {n:Nat} {k:Nat} (hi:i < b.length) (h:c8 s (i:Int) = true) (hn:n = b.length:=by rfl) (hk:k = i:=by rfl):
 CoO (.arr true 1 3 n (gu (lf zC (py a b s i)) k 0 [.raw (.int .i64 (a.getD i default))])) (.arr true 1 3 n (lf zC (py a b s (i + 1)))):=by
 rw [<- bhb hi h];exact vn (fun h=>h) (hn.trans (tq a b s i).symm) hk (by rw [tq];exact hi) rfl
def am3 {n:Nat} (h:¬ c8 s (i:Int) = true):CoO (.arr true 1 3 n (lf zC (py a b s i))) (.arr true 1 3 n (lf zC (py a b s (i + 1)))):=by
 rw [<- bgd h];exact CoO.refl _
def b7p {n:Nat} {r:Rw} (h:r.length = n):CoC (.one (.sl n 1 false (lf zC r))) (pZ r):=by subst h;exact CoC.refl _
end
end
section
open Go.Proofs
def afw:goodFn bw0 232:=wgx Tryz.func232
def ahi (n:Nat) (c:Bool) (f:Nat -> Nat -> PV) (hn:n <= 17592186044416) :
 cz bw0 232 [.one (.p (.sl n 1 c f))] [] (.v (.one (.ref 0 n))) [(0, .arr true 1 3 n f)] []:=by
 refine hfx (nt:=8) Tryz.func232 ?_;refine sx7 ?_;refine cg true rfl rfl rfl rfl rfl trivial ?_;refine cw ?_;refine a3j (ι:=Bool) (fun c=>⟨[(0,some (bp (.sl n 1 c f)))],[]⟩) (fun _=>True) ?_ fun c _=>?_
 · rcases bsx n with hz | h0
   · subst hz
     refine hw_exact' 0 rfl fun ad cap hcap=>?_;refine sx7 ?_;(iterate 2 refine cg true rfl rfl rfl rfl rfl trivial ?_);refine cw ?_;refine au ad.isNone rfl (fun hc=>?_) (fun hc=>?_)
     · refine sx7 ?_
       refine cg true rfl rfl rfl rfl rfl trivial ?_;refine cw ?_;refine df 2 0 true 1 3 f bvg rfl (CoP.sl rfl (.inr rfl) (fun h=>h) fun i j hi _=>absurd hi (brg i)) (.inr rfl) rfl ?_;refine hrr ?_;exact ⟨_,_,rfl,trivial,CoR.refl _,uu⟩
     refine dy ?_;exact ⟨false,trivial,⟨⟨_,rfl,CoP.raw_sl hcap⟩,trivial⟩,trivial⟩
   refine sx7 ?_;refine cg true rfl rfl rfl rfl rfl trivial ?_;refine cg true rfl rfl rfl rfl rfl h0 ?_;refine cw ?_;refine au false rfl (fun hc=>by cases hc) (fun hc=>?_);refine dy ?_;exact ⟨c,trivial,tt,trivial⟩
 refine sx7 ?_;refine ze 0 rfl rfl rfl rfl rfl rfl trivial ?_;refine cg true rfl rfl rfl rfl rfl trivial ?_;refine a31 0 true rfl rfl rfl rfl rfl rfl ⟨trivial,rfl,rfl,rfl, .inl rfl,by show 0 + n <= 9223372036854775807;omega,by show (0 + n) * 8 <= 140737488355328;omega,fun _=>.inl rfl⟩ ?_;refine cg true rfl rfl rfl rfl rfl trivial ?_;refine cw ?_;refine hrr ?_;refine ⟨_,_,rfl,trivial,CoR.of_eq (by show HR.v (.one (.ref 0 (0 + n))) = _;rw [bs5]),⟨⟨_,rfl, ?_⟩,trivial⟩⟩;exact ⟨fun h=>h,rfl,rfl,(bs5 n).symm,fun i j _ _=>CoP.of_eq (by simp [f8])⟩
def b3v (n:Nat) (c:Bool) (f:Nat -> Nat -> PV) (hn:n <= 17592186044416):a6 bw0 232 [.one (.sl n 1 c f)] (.v (.one (.sl n 1 false f))) :=
 cz.pure (args:=[.one (.sl n 1 c f)]) (l:=[.one (.ref 0 n)]) (ahi n c f hn) rfl ⟨rfl,trivial⟩
def aff:goodFn bw0 189:=wgx Tryz.func189
def au3 (n:Int) (l:List Rw) (hl:∀ i,i < l.length -> (l.getD i default).length <= 17592186044416) (hl2:l.length <= 5864062014805):cz bw0 189 [.agg [.p (.raw (.int .i64 n)), .p (rl l)]] [] (.v (.agg [.p (.raw (.int .i64 n)), .ref 901 l.length])) [(901, .arr true 1 124 l.length (lf rC l))] []:=by
 refine hfx (nt:=25) Tryz.func189 ?_;refine sx7 ?_;refine m9 0 ?_;refine m9 1 ?_;refine w_6 ?_;refine m9 2 ?_;refine w_2 ?_;refine go 2 1 901 true 1 124 (lf rC l) bvg rfl rfl (CoP.sl rfl (.inr rfl) (fun h=>h) (fun i j hi _=>absurd hi (brg i))) (.inr rfl) rfl rfl ?_;refine w_9 ?_;refine br (ka 2 (ka 3 (ka 10 (ka 11 kn)))) (kb 1 km) (fun i=>⟨[(12,some (vI i))],[(2,some (.box [.p (.raw (.int .i64 n)), .ref 901 i])),(901,some (.arr true 1 124 i (lf rC l)))]⟩) l.length kk ?_;rintro i hi;refine w_5 ?_;refine hcd (fun h0=>?_) (fun h0=>?_)
 · refine kf ?_;refine qcx afw (b3v (l.getD i default).length false (lf zC (l.getD i default)) (hl i bv9)) ?_;refine m9 3 ?_;refine r9 4 true ?_;refine w_8 ?_;exact lpx (i + 1) ⟨tt,⟨u9,⟨_,rfl,(wn (fun h=>h) (fun j hj=>by obtain rfl:j = 0:=bv9;exact CoP.refl _))⟩,uu⟩⟩
 obtain rfl:i = l.length:=by omega
 refine w_6 ?_;refine hrr ?_;exact ⟨_,_,rfl,bvb,CoR.refl _,uu⟩
def b3y (n:Int) (l:List Rw) (hl:∀ i,i < l.length -> (l.getD i default).length <= 17592186044416) (hl2:l.length <= 5864062014805):a6 bw0 189 [pT n l] (af [pT n l]) :=
 cz.pure (args:=[pT n l]) (l:=[.agg [.p (.raw (.int .i64 n)), .ref 901 l.length]]) (au3 n l hl hl2) rfl ⟨⟨trivial,rfl,trivial⟩,trivial⟩
def b18 (a b:Rw) (s:AS) (h:a.length = b.length) (h16:b.length <= 16):a6 bw0 196 [pZ a,pZ b,pA s] (af [pZ (fp a b s)]):=by
 refine hpx (nt:=30) Tryz.func196 ?_;refine w_7 ?_;refine fc9 afw (ahi b.length false (lf zC b) bv9) trivial ?_;refine dc ?_;refine br (ka 0 (ka 2 (ka 7 (ka 12 kn)))) km (fun i=>⟨[(13,some (vI i))],[(0,some (.arr true 1 3 b.length (lf zC (py a b s i))))]⟩) b.length ⟨tt,⟨⟨_,rfl,(CoO.of_eq (by rw [<- b1h]))⟩,trivial⟩⟩ ?_;rintro i hi;refine w_5 ?_;refine hcd (fun h0=>?_) (fun h0=>?_)
 ·
  refine v7 ?_;refine hcd (fun h1=>?_) (fun h1=>?_)
  · refine qs ?_;exact lpx (i + 1) ⟨tt,⟨⟨_,rfl,(by first | exact anr bv9 ((rj bv9).1 bva) | exact am3 (fun e=>absurd ((rj bv9).2 e) bva))⟩,trivial⟩⟩
  refine w_5 ?_;exact lpx (i + 1) ⟨tt,⟨⟨_,rfl,(by first | exact anr bv9 ((rj bv9).1 bva) | exact am3 (fun e=>absurd ((rj bv9).2 e) bva))⟩,trivial⟩⟩
 obtain rfl:i = b.length:=by omega
 refine w_2 ?_;refine bn 7 rfl rfl rfl ?_;refine v_4 ?_;exact ⟨by rw [b54];exact b7p (mt a b s),trivial⟩
end
end Go.Hx

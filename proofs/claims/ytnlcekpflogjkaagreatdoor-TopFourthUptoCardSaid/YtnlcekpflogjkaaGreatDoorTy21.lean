/- A part of the proof: X4 Ch4 X5. -/
import Derived.Test.YtnlcekpflogjkaaGreatDoorTy20
set_option linter.all false
set_option maxRecDepth 100000
namespace Go.Hx
section
open Go.Proofs
def a6i(i:Nat):((i:Int)-1).toNat=i-1:=by omega
def bdn(n:Int)(l:List Rw):a6 bxn 192 [pT n l] (ae [pB (tok n l)]):=by
 refine hpx (nt:=50) Tryz.func192 ?_;refine sx7 ?_;refine m9 0 ?_;refine w_9 ?_;refine ak rfl rfl ?_ ?_<;>intro r0
 ·
  have h0:=tz1 r0;(iterate 3 refine k9 (gtf r0) ?_);refine w_2 ?_;(iterate 4 refine k9 rfl ?_);refine w_7 ?_
  exact hx8 rfl rfl rfl (⟨ccb (aqe bww).symm,trivial⟩)
 have h0:=tz2 r0;(iterate 3 refine qy ?_ (hg:=(gff r0)));refine w_2 ?_;refine ak rfl rfl ?_ ?_<;>intro r1
 ·
  have h1:=tz1 (ax r0 r1);(iterate 4 refine k9 (gtf r1) ?_);refine w_7 ?_
  exact hx8 rfl rfl rfl (⟨ccb (aqe bww).symm,trivial⟩)
 have h1:=tz2 (ax r0 r1);(iterate 4 refine qy ?_ (hg:=(gff r1)));refine w_2 ?_;refine al _ rfl ?_ ?_<;>intro r2
 · have h2:=tz1 (ax r1 r2);refine v_4 ?_;exact⟨ccb (aqe bww).symm,trivial⟩
 have h2:=tz2 (ax r1 r2);refine da ?_;refine ai (ι:=Nat) (ka 1 (ka 20 (ka 21 kn))) (kb 0 km) (fun i=>⟨[(22,some (vI i))],[]⟩) (fun i=>i<=l.length/\(∀j,j<i->qt n l j=true)) (fun i=>l.length-i) (0) (⟨bsx _,bv⟩) kk ?_;rintro i ⟨hi,hI⟩;refine w_5 ?_;refine hcd ?_ ?_<;>intro h3
 ·
  refine ahd ?_;refine ak rfl rfl ?_ ?_<;>intro r4
  ·
   have h4:=tz2 (dt r4);(iterate 2 refine k9 (gtf r4) ?_);refine w_7 ?_
   exact hx8 rfl rfl rfl (⟨ccb (avl (i:=i) bww (by first|exact av3 bwx|exact at9 bwx|exact ah8 bww (by simp_all [a6i]))).symm,trivial⟩)
  have h4:=tz1 (du r4);refine qy ?_ (hg:=(gff r4));refine qcx (wgx Tryz.func233) (bpw (l.getD i default) 234 0 (fun _=>.any) (fun x=>decide (x<0)) (wgx Tryz.func234) (fun x=>bp4 x)) ?_ (hg:=(gff r4));refine w_2 ?_;refine al _ rfl ?_ ?_<;>intro r5
  · have h5:=ax r4 r5;refine v_4 ?_;exact⟨ccb (avl (i:=i) bww (by first|exact av3 bwx|exact at9 bwx|exact ah8 bww (by simp_all [a6i]))).symm,trivial⟩
  have h5:=ax r4 r5;refine w_6 ?_;refine ak rfl rfl ?_ ?_<;>intro r6
  ·
   have h6:=tz1 r6;(iterate 7 refine qy ?_ (hg:=(gtt r6)));refine qcx (wgx Tryz.func198) (b8r (l.getD ((i:Int)-1).toNat default) (l.getD i default)) ?_ (hg:=(gtt r6));refine qy ?_ (hg:=(gtt r6));refine w_2 ?_
   refine al _ rfl ?_ ?_<;>intro r7
   · have h7:=tz1 (c5 r6 r7);refine v_4 ?_;exact⟨ccb (avl (i:=i) bww (ah8 bww fun e=>absurd (a5x.2 e) (by simp only[a6i]at *;omega))).symm,trivial⟩
   have h7:=tz2 (c5 r6 r7);refine w_5 ?_;refine lpz (i+1) kk ?_;exact⟨by show i+1<=_;omega,bc hI (ann bwx bwx (by first|(exact .inl bww)|(exact .inr (a5x.1 (by simp only[a6i]at *;omega)))))⟩
  have h6:=tz2 r6;(iterate 9 refine k9 (gft r6) ?_);refine w_8 ?_;refine lpz (i+1) kk ?_
  exact⟨by show i+1<=_;omega,bc hI (ann bwx bwx (by first|(exact .inl bww)|(exact .inr (a5x.1 (by simp only[a6i]at *;omega)))))⟩
 refine v_5 ?_;exact⟨ccb (b87 bww bww bww fun j hj=>hI j bww).symm,trivial⟩
def agj:goodFn bxn 146:=wgx Tryz.func146
def abu (n:Int) (l:List Rw) (p m:List Fd):a6 bxn 146 [pT n l,pP (fdl p),pP (fdl m)] (ae [pI (if tok n l=true then dc n p m else 1)]):=by
 refine hpx (nt:=15) Tryz.func146 ?_;refine sx7 ?_;refine m9 0 ?_;refine w_6 ?_;refine qcx (wgx Tryz.func192) (bdn n l) ?_;refine w_2 ?_;refine hcv ?_ ?_<;>intro h0
 · refine v_4 ?_;exact⟨cci (if_neg bxa).symm,trivial⟩
 refine w_7 ?_;refine qcx a8a (a44 n p m) ?_;refine v_2 ?_;exact⟨cci (if_pos bxa).symm,trivial⟩
end
section
def qu(a b:Rw)(s:AS)(i:Nat):Rw:=(List.range b.length).map fun(j:Nat)=>if j<i/\bu s (j:Int)=true then a.getD j default else b.getD j default
def uc(a b:Rw)(s:AS)(i:Nat):(qu a b s i).length=b.length:=by unfold qu;simp
section
variable {a b:Rw}{i:Nat}{s:AS}
def aix {k:Nat} (hk:k<b.length):(qu a b s i).getD k default=if k<i/\bu s (k:Int)=true then a.getD k default else b.getD k default:=by
 unfold qu;rw[bsv,btf,bu8 hk];rfl
def axu (a b:Rw) (s:AS):b=qu a b s 0:=o8 (uc a b s 0).symm fun j hj=>by
 rw[aix hj,if_neg bww]
def b4q (a b:Rw) (s:AS):qu a b s b.length=ej a b s:=by
 unfold qu ej;refine bvc fun k hk=>?_;have:=btj.1 hk;by_cases h:bu s (k:Int)=true
 · rw[if_pos ⟨this,h⟩,if_pos h]
 rw[if_neg (fun e=>h e.2),if_neg h]
def bip(h:¬bu s (i:Int)=true):qu a b s i=qu a b s (i+1):=by
 unfold qu;refine bvc fun k hk=>?_;by_cases h2:k<i/\bu s (k:Int)=true
 · rw[if_pos h2,if_pos ⟨by omega,h2.2⟩]
 rw [if_neg h2, if_neg fun e => h2 ⟨by rcases bvr (bvv e.1)with h3|h3
                                       · exact h3
                                       subst h3;exact absurd e.2 h,e.2⟩]
def big(hi:i<b.length)(h:bu s (i:Int)=true):(qu a b s i).set i (a.getD i default)=qu a b s (i+1):=by
 refine o8 (by rw[bus,uc,uc]) fun j hj=>?_;rw[bus,uc]at hj;rw[aix hj];by_cases e:j=i
 · subst e
   rw[l3 (by rw[uc];exact hj),if_pos ⟨by omega,h⟩]
 rw[getD_set_ne' e,aix hj];by_cases h2:j<i/\bu s (j:Int)=true
 · rw[if_pos h2,if_pos ⟨by omega,h2.2⟩]
 rw[if_neg h2,if_neg fun e2=>h2 ⟨by omega,e2.2⟩]
def jx(a b:Rw)(s:AS):(ej a b s).length=b.length:=by unfold ej;simp
def aq7 {n:Nat} {k:Nat} (hi:i<b.length) (h:bu s (i:Int)=true) (hn:n=b.length:=by rfl) (hk:k=i:=by rfl):
 CoO (.arr true 1 3 n (eu (lf zC (qu a b s i)) k 0 [.raw (.int .i64 (a.getD i default))])) (.arr true 1 3 n (lf zC (qu a b s (i+1)))):=by
 rw[<- big hi h];exact vu (fun h=>h) (hn.trans (uc a b s i).symm) hk (by rw[uc];exact hi) rfl
def anw {n:Nat} (h:¬bu s (i:Int)=true):CoO (.arr true 1 3 n (lf zC (qu a b s i))) (.arr true 1 3 n (lf zC (qu a b s (i+1)))):=by
 rw[<- bip h];exact CoO.refl _
def b93{n:Nat}{r:Rw}(h:r.length=n):CoC (.one (.sl n 1 false (lf zC r))) (pZ r):=by subst h;exact CoC.refl _
end
end
section
open Go.Proofs
def ahb:goodFn bxn 232:=wgx Tryz.func232
def ahu(n:Nat)(c:Bool)(f:Nat->Nat->PV)(hn:n<=17592186044416) :
 d9 bxn 232 [.one (.p (.sl n 1 c f))] [] (.v (.one (.ref 0 n))) [(0, .arr true 1 3 n f)] []:=by
 refine hfx (nt:=8) Tryz.func232 ?_;refine sx7 ?_;refine c7 true rfl rfl rfl rfl rfl trivial ?_;refine cj ?_;refine ze (ι:=Bool) (fun c=>⟨[(0,some (bp (.sl n 1 c f)))],[]⟩) (fun _=>True) ?_ fun c _=>?_
 · rcases buc n with hz|h0
   · subst hz
     refine hw_exact' 0 rfl fun ad cap hcap=>?_;refine sx7 ?_;(iterate 2 refine c7 true rfl rfl rfl rfl rfl trivial ?_);refine cj ?_;refine al ad.isNone rfl ?_ ?_<;>intro hc
     · refine sx7 ?_
       refine c7 true rfl rfl rfl rfl rfl trivial ?_;refine cj ?_;refine d4 2 0 true 1 3 f bx3 rfl (CoP.sl rfl (.inr rfl) (fun h=>h) fun i j hi _=>absurd hi (bt1 i)) (.inr rfl) rfl ?_;refine hrr ?_;exact⟨_,_,rfl,trivial,CoR.refl _,uu⟩
     refine dn ?_;exact⟨false,trivial,⟨⟨_,rfl,CoP.raw_sl hcap⟩,trivial⟩,trivial⟩
   refine sx7 ?_;refine c7 true rfl rfl rfl rfl rfl trivial ?_;refine c7 true rfl rfl rfl rfl rfl h0 ?_;refine cj ?_;refine al false rfl (fun hc=>by cases hc) (fun hc=>?_);refine dn ?_;exact⟨c,trivial,tt,trivial⟩
 refine sx7 ?_;refine wu 0 rfl rfl rfl rfl rfl rfl trivial ?_;refine c7 true rfl rfl rfl rfl rfl trivial ?_;refine zp 0 true rfl rfl rfl rfl rfl rfl ⟨trivial,rfl,rfl,rfl, .inl rfl,by show 0+n<=9223372036854775807;omega,by show(0+n)*8<=140737488355328;omega,fun _=>.inl rfl⟩ ?_;refine c7 true rfl rfl rfl rfl rfl trivial ?_;refine cj ?_;refine hrr ?_;refine⟨_,_,rfl,trivial,CoR.of_eq (by show HR.v (.one (.ref 0 (0+n)))=_;rw[btk]),⟨⟨_,rfl, ?_⟩,trivial⟩⟩;exact⟨fun h=>h,rfl,rfl,(btk n).symm,fun i j _ _=>CoP.of_eq (by simp[ep])⟩
def b69 (n:Nat) (c:Bool) (f:Nat->Nat->PV) (hn:n<=17592186044416):a6 bxn 232 [.one (.sl n 1 c f)] (.v (.one (.sl n 1 false f))) :=
 d9.pure (args:=[.one (.sl n 1 c f)]) (l:=[.one (.ref 0 n)]) (ahu n c f hn) rfl ⟨rfl,trivial⟩
def ags:goodFn bxn 189:=wgx Tryz.func189
def aun (n:Int) (l:List Rw) (hl:∀i,i<l.length->(l.getD i default).length<=17592186044416) (hl2:l.length<=5864062014805):d9 bxn 189 [.agg [.p (.raw (.int .i64 n)), .p (rl l)]] [] (.v (.agg [.p (.raw (.int .i64 n)), .ref 901 l.length])) [(901, .arr true 1 124 l.length (lf rC l))] []:=by
 refine hfx (nt:=25) Tryz.func189 ?_;refine sx7 ?_;refine m9 0 ?_;refine m9 1 ?_;refine w_6 ?_;refine m9 2 ?_;refine w_2 ?_;refine go 2 1 901 true 1 124 (lf rC l) bx3 rfl rfl (CoP.sl rfl (.inr rfl) (fun h=>h) (fun i j hi _=>absurd hi (bt1 i))) (.inr rfl) rfl rfl ?_;refine w_9 ?_;refine br (ka 2 (ka 3 (ka 10 (ka 11 kn)))) (kb 1 km) (fun i=>⟨[(12,some (vI i))],[(2,some (.box [.p (.raw (.int .i64 n)), .ref 901 i])),(901,some (.arr true 1 124 i (lf rC l)))]⟩) l.length kk ?_;rintro i hi;refine w_5 ?_;refine hcd ?_ ?_<;>intro h0
 · refine jo ?_;refine qcx ahb (b69 (l.getD i default).length false (lf zC (l.getD i default)) (hl i bww)) ?_;refine m9 3 ?_;refine r9 4 true ?_;refine w_8 ?_;exact lpx (i+1) ⟨tt,⟨u9,⟨_,rfl,(wh (fun h=>h) (fun j hj=>by obtain rfl:j=0:=bww;exact CoP.refl _))⟩,uu⟩⟩
 obtain rfl:i=l.length:=by omega
 refine w_6 ?_;refine hrr ?_;exact⟨_,_,rfl,bwy,CoR.refl _,uu⟩
def b3d (n:Int) (l:List Rw) (hl:∀i,i<l.length->(l.getD i default).length<=17592186044416) (hl2:l.length<=5864062014805):a6 bxn 189 [pT n l] (ae [pT n l]) :=
 d9.pure (args:=[pT n l]) (l:=[.agg [.p (.raw (.int .i64 n)), .ref 901 l.length]]) (aun n l hl hl2) rfl ⟨⟨trivial,rfl,trivial⟩,trivial⟩
def ayn (a b:Rw) (s:AS) (h:a.length=b.length) (h16:b.length<=16):a6 bxn 196 [pZ a,pZ b,pA s] (ae [pZ (ej a b s)]):=by
 refine hpx (nt:=30) Tryz.func196 ?_;refine w_7 ?_;refine fc9 ahb (ahu b.length false (lf zC b) bww) trivial ?_;refine da ?_;refine br (ka 0 (ka 2 (ka 7 (ka 12 kn)))) km (fun i=>⟨[(13,some (vI i))],[(0,some (.arr true 1 3 b.length (lf zC (qu a b s i))))]⟩) b.length ⟨tt,⟨⟨_,rfl,(CoO.of_eq (by rw[<- axu]))⟩,trivial⟩⟩ ?_;rintro i hi;refine w_5 ?_;refine hcd ?_ ?_<;>intro h0
 ·
  refine ov ?_;refine hcd ?_ ?_<;>intro h1
  · refine mz ?_;exact lpx (i+1) ⟨tt,⟨⟨_,rfl,(by first|exact aq7 bww ((sa bww).1 bwx)|exact anw (fun e=>absurd ((sa bww).2 e) bwx))⟩,trivial⟩⟩
  refine w_5 ?_;exact lpx (i+1) ⟨tt,⟨⟨_,rfl,(by first|exact aq7 bww ((sa bww).1 bwx)|exact anw (fun e=>absurd ((sa bww).2 e) bwx))⟩,trivial⟩⟩
 obtain rfl:i=b.length:=by omega
 refine w_2 ?_;refine bh 7 rfl rfl rfl ?_;refine v_4 ?_;exact⟨by rw[b4q];exact b93 (jx a b s),trivial⟩
end
end Go.Hx

/- A part of the proof: X4 Ch4 X5. -/
import Derived.Test.YtnlcekpflogjkaaGreatDoorTz22
set_option linter.all false
set_option maxRecDepth 100000
namespace Go.Hx
section
open Go.Proofs
def a6o(i:Nat):((i:Int)-1).toNat=i-1:=by omega
def bba(n:Int)(l:List Rw):a7 bxr 192 [pT n l] (ae [pB (tok n l)]):=by
 refine hpx (nt:=50) Tryz.func192 ?_;refine sx7 ?_;refine m9 0 ?_;refine w_9 ?_;refine al rfl rfl ?_ ?_<;>intro r0
 ·
  have h0:=tz1 r0;(iterate 3 refine k9 (gtf r0) ?_);refine w_2 ?_;(iterate 4 refine k9 rfl ?_);refine w_7 ?_
  exact hx8 rfl rfl rfl (⟨ccb (anq bx5).symm,trivial⟩)
 have h0:=tz2 r0;(iterate 3 refine qy ?_ (hg:=(gff r0)));refine w_2 ?_;refine al rfl rfl ?_ ?_<;>intro r1
 ·
  have h1:=tz1 (bn r0 r1);(iterate 4 refine k9 (gtf r1) ?_);refine w_7 ?_
  exact hx8 rfl rfl rfl (⟨ccb (anq bx5).symm,trivial⟩)
 have h1:=tz2 (bn r0 r1);(iterate 4 refine qy ?_ (hg:=(gff r1)));refine w_2 ?_;refine ax _ rfl ?_ ?_<;>intro r2
 · have h2:=tz1 (bn r1 r2);refine v_4 ?_;exact⟨ccb (anq bx5).symm,trivial⟩
 have h2:=tz2 (bn r1 r2);refine cr ?_;refine am (ι:=Nat) (ka 1 (ka 20 (ka 21 kn))) (kb 0 km) (fun i=>⟨[(22,some (vI i))],[]⟩) (fun i=>i<=l.length/\(∀j,j<i->qq n l j=true)) (fun i=>l.length-i) (0) (⟨bt6 _,d5⟩) kk ?_;rintro i ⟨hi,hI⟩;refine w_5 ?_;refine hcd ?_ ?_<;>intro h3
 ·
  refine awe ?_;refine al rfl rfl ?_ ?_<;>intro r4
  ·
   have h4:=tz2 (cj r4);(iterate 2 refine k9 (gtf r4) ?_);refine w_7 ?_
   exact hx8 rfl rfl rfl (⟨ccb (avb (i:=i) bx5 (by first|exact atg bx6|exact asy bx6|exact ag5 bx5 (by simp_all [a6o]))).symm,trivial⟩)
  have h4:=tz1 (cn r4);refine qy ?_ (hg:=(gff r4));refine qcx (wgx Tryz.func233) (bq7 (l.getD i default) 234 0 (fun _=>.any) (fun x=>decide (x<0)) (wgx Tryz.func234) (fun x=>bpg x)) ?_ (hg:=(gff r4));refine w_2 ?_;refine ax _ rfl ?_ ?_<;>intro r5
  · have h5:=bn r4 r5;refine v_4 ?_;exact⟨ccb (avb (i:=i) bx5 (by first|exact atg bx6|exact asy bx6|exact ag5 bx5 (by simp_all [a6o]))).symm,trivial⟩
  have h5:=bn r4 r5;refine w_6 ?_;refine al rfl rfl ?_ ?_<;>intro r6
  ·
   have h6:=tz1 r6;(iterate 7 refine qy ?_ (hg:=(gtt r6)));refine qcx (wgx Tryz.func198) (b7y (l.getD ((i:Int)-1).toNat default) (l.getD i default)) ?_ (hg:=(gtt r6));refine qy ?_ (hg:=(gtt r6));refine w_2 ?_
   refine ax _ rfl ?_ ?_<;>intro r7
   · have h7:=tz1 (br r6 r7);refine v_4 ?_;exact⟨ccb (avb (i:=i) bx5 (ag5 bx5 fun e=>absurd (a5i.2 e) (by simp only[a6o]at *;omega))).symm,trivial⟩
   have h7:=tz2 (br r6 r7);refine w_5 ?_;refine lpz (i+1) kk ?_;exact⟨by show i+1<=_;omega,c6 hI (aof bx6 bx6 (by first|(exact .inl bx5)|(exact .inr (a5i.1 (by simp only[a6o]at *;omega)))))⟩
  have h6:=tz2 r6;(iterate 9 refine k9 (gft r6) ?_);refine w_8 ?_;refine lpz (i+1) kk ?_
  exact⟨by show i+1<=_;omega,c6 hI (aof bx6 bx6 (by first|(exact .inl bx5)|(exact .inr (a5i.1 (by simp only[a6o]at *;omega)))))⟩
 refine v_5 ?_;exact⟨ccb (b82 bx5 bx5 bx5 fun j hj=>hI j bx5).symm,trivial⟩
def b2q (n:Int) (l:List Rw) (p m:List Fd):a7 bxr 146 [pT n l,pP (fdl p),pP (fdl m)] (ae [pI (if tok n l=true then eo n p m else 1)]):=by
 refine hpx (nt:=15) Tryz.func146 ?_;refine sx7 ?_;refine m9 0 ?_;refine w_6 ?_;refine qcx (wgx Tryz.func192) (bba n l) ?_;refine w_2 ?_;refine hcv ?_ ?_<;>intro h0
 · refine v_4 ?_;exact⟨cci (if_neg bxf).symm,trivial⟩
 refine w_7 ?_;refine qcx af0 (a9l n p m) ?_;refine v_2 ?_;exact⟨cci (if_pos bxf).symm,trivial⟩
end
section
def qp(a b:Rw)(s:AS)(i:Nat):Rw:=(List.range b.length).map fun(j:Nat)=>if j<i/\en s (j:Int)=true then a.getD j default else b.getD j default
def ua(a b:Rw)(s:AS)(i:Nat):(qp a b s i).length=b.length:=by unfold qp;simp
section
variable {a b:Rw}{i:Nat}{s:AS}
def agl {k:Nat} (hk:k<b.length):(qp a b s i).getD k default=if k<i/\en s (k:Int)=true then a.getD k default else b.getD k default:=by
 unfold qp;rw[bt1,btm,bus hk];rfl
def b19 (a b:Rw) (s:AS):b=qp a b s 0:=pl (ua a b s 0).symm fun j hj=>by
 rw[agl hj,if_neg bx5]
def b64 (a b:Rw) (s:AS):qp a b s b.length=ij a b s:=by
 unfold qp ij;refine bvd fun k hk=>?_;have:=btg.1 hk;by_cases h:en s (k:Int)=true
 · rw[if_pos ⟨this,h⟩,if_pos h]
 rw[if_neg (fun e=>h e.2),if_neg h]
def bjt(h:¬en s (i:Int)=true):qp a b s i=qp a b s (i+1):=by
 unfold qp;refine bvd fun k hk=>?_;by_cases h2:k<i/\en s (k:Int)=true
 · rw[if_pos h2,if_pos ⟨by omega,h2.2⟩]
 rw [if_neg h2, if_neg fun e => h2 ⟨by rcases bvx (bwd e.1)with h3|h3
                                       · exact h3
                                       subst h3;exact absurd e.2 h,e.2⟩]
def bky(hi:i<b.length)(h:en s (i:Int)=true):(qp a b s i).set i (a.getD i default)=qp a b s (i+1):=by
 refine pl (by rw[buv,ua,ua]) fun j hj=>?_;rw[buv,ua]at hj;rw[agl hj];by_cases e:j=i
 · subst e
   rw[nk (by rw[ua];exact hj),if_pos ⟨by omega,h⟩]
 rw[getD_set_ne' e,agl hj];by_cases h2:j<i/\en s (j:Int)=true
 · rw[if_pos h2,if_pos ⟨by omega,h2.2⟩]
 rw[if_neg h2,if_neg fun e2=>h2 ⟨by omega,e2.2⟩]
def a0f(a b:Rw)(s:AS):(ij a b s).length=b.length:=by unfold ij;simp
def an9 {n:Nat} {k:Nat} (hi:i<b.length) (h:en s (i:Int)=true) (hn:n=b.length:=by rfl) (hk:k=i:=by rfl):
 CoO (.arr true 1 3 n (fz (lf zC (qp a b s i)) k 0 [.raw (.int .i64 (a.getD i default))])) (.arr true 1 3 n (lf zC (qp a b s (i+1)))):=by
 rw[<- bky hi h];exact vb (fun h=>h) (hn.trans (ua a b s i).symm) hk (by rw[ua];exact hi) rfl
def aq1 {n:Nat} (h:¬en s (i:Int)=true):CoO (.arr true 1 3 n (lf zC (qp a b s i))) (.arr true 1 3 n (lf zC (qp a b s (i+1)))):=by
 rw[<- bjt h];exact CoO.refl _
def b8t{n:Nat}{r:Rw}(h:r.length=n):CoC (.one (.sl n 1 false (lf zC r))) (pZ r):=by subst h;exact CoC.refl _
end
end
section
open Go.Proofs
def ah9:goodFn bxr 232:=wgx Tryz.func232
def ahc(n:Nat)(c:Bool)(f:Nat->Nat->PV)(hn:n<=17592186044416) :
 dv bxr 232 [.one (.p (.sl n 1 c f))] [] (.v (.one (.ref 0 n))) [(0, .arr true 1 3 n f)] []:=by
 refine hfx (nt:=8) Tryz.func232 ?_;refine sx7 ?_;refine du true rfl rfl rfl rfl rfl trivial ?_;refine dq ?_;refine a9n (ι:=Bool) (fun c=>⟨[(0,some (bp (.sl n 1 c f)))],[]⟩) (fun _=>True) ?_ fun c _=>?_
 · rcases buz n with hz|h0
   · subst hz
     refine hw_exact' 0 rfl fun ad cap hcap=>?_;refine sx7 ?_;(iterate 2 refine du true rfl rfl rfl rfl rfl trivial ?_);refine dq ?_;refine ax ad.isNone rfl ?_ ?_<;>intro hc
     · refine sx7 ?_
       refine du true rfl rfl rfl rfl rfl trivial ?_;refine dq ?_;refine d8 2 0 true 1 3 f bxc rfl (CoP.sl rfl (.inr rfl) (fun h=>h) fun i j hi _=>absurd hi (bt9 i)) (.inr rfl) rfl ?_;refine hrr ?_;exact⟨_,_,rfl,trivial,CoR.refl _,uu⟩
     refine fk ?_;exact⟨false,trivial,⟨⟨_,rfl,CoP.raw_sl hcap⟩,trivial⟩,trivial⟩
   refine sx7 ?_;refine du true rfl rfl rfl rfl rfl trivial ?_;refine du true rfl rfl rfl rfl rfl h0 ?_;refine dq ?_;refine ax false rfl (fun hc=>by cases hc) (fun hc=>?_);refine fk ?_;exact⟨c,trivial,tt,trivial⟩
 refine sx7 ?_;refine a36 0 rfl rfl rfl rfl rfl rfl trivial ?_;refine du true rfl rfl rfl rfl rfl trivial ?_;refine a7e 0 true rfl rfl rfl rfl rfl rfl ⟨trivial,rfl,rfl,rfl, .inl rfl,by show 0+n<=9223372036854775807;omega,by show(0+n)*8<=140737488355328;omega,fun _=>.inl rfl⟩ ?_;refine du true rfl rfl rfl rfl rfl trivial ?_;refine dq ?_;refine hrr ?_;refine⟨_,_,rfl,trivial,CoR.of_eq (by show HR.v (.one (.ref 0 (0+n)))=_;rw[bu1]),⟨⟨_,rfl, ?_⟩,trivial⟩⟩;exact⟨fun h=>h,rfl,rfl,(bu1 n).symm,fun i j _ _=>CoP.of_eq (by simp[iw])⟩
def b61 (n:Nat) (c:Bool) (f:Nat->Nat->PV) (hn:n<=17592186044416):a7 bxr 232 [.one (.sl n 1 c f)] (.v (.one (.sl n 1 false f))) :=
 dv.pure (args:=[.one (.sl n 1 c f)]) (l:=[.one (.ref 0 n)]) (ahc n c f hn) rfl ⟨rfl,trivial⟩
def aib:goodFn bxr 189:=wgx Tryz.func189
def att (n:Int) (l:List Rw) (hl:∀i,i<l.length->(l.getD i default).length<=17592186044416) (hl2:l.length<=5864062014805):dv bxr 189 [.agg [.p (.raw (.int .i64 n)), .p (rl l)]] [] (.v (.agg [.p (.raw (.int .i64 n)), .ref 901 l.length])) [(901, .arr true 1 124 l.length (lf rC l))] []:=by
 refine hfx (nt:=25) Tryz.func189 ?_;refine sx7 ?_;refine m9 0 ?_;refine m9 1 ?_;refine w_6 ?_;refine m9 2 ?_;refine w_2 ?_;refine pi 2 1 901 true 1 124 (lf rC l) bxc rfl rfl (CoP.sl rfl (.inr rfl) (fun h=>h) (fun i j hi _=>absurd hi (bt9 i))) (.inr rfl) rfl rfl ?_;refine w_9 ?_;refine bw (ka 2 (ka 3 (ka 10 (ka 11 kn)))) (kb 1 km) (fun i=>⟨[(12,some (vI i))],[(2,some (.box [.p (.raw (.int .i64 n)), .ref 901 i])),(901,some (.arr true 1 124 i (lf rC l)))]⟩) l.length kk ?_;rintro i hi;refine w_5 ?_;refine hcd ?_ ?_<;>intro h0
 · refine mq ?_;refine qcx ah9 (b61 (l.getD i default).length false (lf zC (l.getD i default)) (hl i bx5)) ?_;refine m9 3 ?_;refine r9 4 true ?_;refine w_8 ?_;exact lpx (i+1) ⟨tt,⟨u9,⟨_,rfl,(at4 (fun h=>h) (fun j hj=>by obtain rfl:j=0:=bx5;exact CoP.refl _))⟩,uu⟩⟩
 obtain rfl:i=l.length:=by omega
 refine w_6 ?_;refine hrr ?_;exact⟨_,_,rfl,bx7,CoR.refl _,uu⟩
def b2d (n:Int) (l:List Rw) (hl:∀i,i<l.length->(l.getD i default).length<=17592186044416) (hl2:l.length<=5864062014805):a7 bxr 189 [pT n l] (ae [pT n l]) :=
 dv.pure (args:=[pT n l]) (l:=[.agg [.p (.raw (.int .i64 n)), .ref 901 l.length]]) (att n l hl hl2) rfl ⟨⟨trivial,rfl,trivial⟩,trivial⟩
def ay8 (a b:Rw) (s:AS) (h:a.length=b.length) (h16:b.length<=16):a7 bxr 196 [pZ a,pZ b,pA s] (ae [pZ (ij a b s)]):=by
 refine hpx (nt:=30) Tryz.func196 ?_;refine w_7 ?_;refine fc9 ah9 (ahc b.length false (lf zC b) bx5) trivial ?_;refine cr ?_;refine bw (ka 0 (ka 2 (ka 7 (ka 12 kn)))) km (fun i=>⟨[(13,some (vI i))],[(0,some (.arr true 1 3 b.length (lf zC (qp a b s i))))]⟩) b.length ⟨tt,⟨⟨_,rfl,(CoO.of_eq (by rw[<- b19]))⟩,trivial⟩⟩ ?_;rintro i hi;refine w_5 ?_;refine hcd ?_ ?_<;>intro h0
 ·
  refine ss ?_;refine hcd ?_ ?_<;>intro h1
  · refine qb ?_;exact lpx (i+1) ⟨tt,⟨⟨_,rfl,(by first|exact an9 bx5 ((ve bx5).1 bx6)|exact aq1 (fun e=>absurd ((ve bx5).2 e) bx6))⟩,trivial⟩⟩
  refine w_5 ?_;exact lpx (i+1) ⟨tt,⟨⟨_,rfl,(by first|exact an9 bx5 ((ve bx5).1 bx6)|exact aq1 (fun e=>absurd ((ve bx5).2 e) bx6))⟩,trivial⟩⟩
 obtain rfl:i=b.length:=by omega
 refine w_2 ?_;refine bj 7 rfl rfl rfl ?_;refine v_4 ?_;exact⟨by rw[b64];exact b8t (a0f a b s),trivial⟩
end
end Go.Hx

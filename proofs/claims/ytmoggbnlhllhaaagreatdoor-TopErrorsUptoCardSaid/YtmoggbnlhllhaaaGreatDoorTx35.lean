/- A part of the proof: Kx17 Kx18. -/
import Derived.Test.YtmoggbnlhllhaaaGreatDoorTx34
set_option linter.all false
set_option maxRecDepth 100000
set_option maxHeartbeats 1000000
namespace Go.Hx
section
open Go.Proofs
def a31(t:Tbl)(q:Fd)(i:Nat):List (Int×Int):=(List.range i).map fun(k:Nat)=>(j0 t q ((k:Int)+1),jb t ((k:Int)+1) q)
section
variable {q:Fd}{t:Tbl}
def af8{i:Nat}:a31 t q (i+1)=a31 t q i++[(j0 t q ((i:Int)+1),jb t ((i:Int)+1) q)]:=by unfold a31;rw[bjj,bju];rfl
def ave{i:Nat}:(a31 t q i).length=i:=by simp[a31]
def wk{m:Int}:0<=j0 t q m:=by unfold j0;split<;>omega
def wc{m:Int}:0<=jb t m q:=by unfold jb;split<;>omega
def a5u {m:Int} (hT:TOk t):j0 t q m<1073741824:=by
 have h1:=acq (d:=q) (m:=m) hT;have h2:=a5q (t:=t) (d:=q) (m:=m);have h3:=ass (s:=(jd t q m).toNat) (r:=alN t m);unfold j0;split<;>omega
def a6n {m:Int} (hT:TOk t):jb t m q<1073741824:=by
 have h1:=atg (t:=t) (m:=m) hT;have h3:=asc (s:=(jd t q m).toNat) (r:=alN t m);unfold jb;split<;>omega
def b1c:akb ((j0 t q 3).toNat*(jb t 2 q).toNat) ((j0 t q 2).toNat*(jb t 3 q).toNat)<=0:=by
 have h:=b6y (t:=t) (d:=q);have a1:=wk (t:=t) (q:=q) (m:=3);have a2:=wk (t:=t) (q:=q) (m:=2);have b1:=wc (t:=t) (q:=q) (m:=3);have b2:=wc (t:=t) (q:=q) (m:=2)
 have h2:(j0 t q 3).toNat*(jb t 2 q).toNat<=(j0 t q 2).toNat*(jb t 3 q).toNat:=by
  apply Int.ofNat_le.1;rw[bks,bks,bk0 a1,bk0 a2,bk0 b1,bk0 b2];exact h
 unfold akb;split
 · decide
 rw[if_neg bmq];decide
set_option maxHeartbeats 2000000
def b3i(x:ji)(d:Dp)(hx:x.rows.length<=8)(t:Tbl)(ht:zq x (x.attrs.toNat%6)=t)(q:Fd)(hq:Dp.fd ((t.attrs.length:Nat):Int) d=q):aa bnb 3 [x.pc,d.pc] (ag [pB true]):=by
 refine hpx (nt:=191) Tryz.func3 ?_;have hT:TOk t:=ht▸b0j bmq hx;have he:EOk t:=ht▸awl;have h8:t.rows.length<=8:=by rw[<- ht];exact bj2 (blo aiv) hx
 have hna:=hT.na;have hl:∀z,q.lhs.getLsbD z=true->z<t.attrs.length:=by rw[<- hq];exact akq hna
 have hrr:∀z,q.rhs.getLsbD z=true->z<t.attrs.length:=by rw[<- hq];exact akq hna
 have hor:∀z,(q.lhs|||q.rhs).getLsbD z=true->z<t.attrs.length:=fun z hz=>by
  rw[bl5,bjx]at hz;exact hz.elim (hl z) (hrr z)
 have hcT:aa bnb 5 [x.pc,pI (8:Nat)] (ag [t.pc,pB true]):=ht▸bbf x hx
 have hcL:aa bnb 7 [pI ((t.attrs.length:Nat):Int),pP (dpl [d])] (ag [pP (fdl [q])]):=by
  have h:=bd5 ((t.attrs.length:Nat):Int) [d] bmu;rw[show[d].map (Dp.fd ((t.attrs.length:Nat):Int))=[q] from congrArg (fun z=>[z]) hq]at h;exact h
 have hgm:∀z,z∈(j1 (gf t q))<->z∈gf t q:=fun z=>aj0;have hks:vc (tu t (j1 (gf t q))) q=true:=aum hT he hgm;have hkl:=avj (d:=q) hT he hgm a2n;have hen:=a5q (t:=t) (d:=q) (m:=3);have hle:uy (a7 t q.lhs) (ap (a7 t (q.lhs|||q.rhs))) (a7 t q.lhs).cls.length=jd t q 3:=b2r;have hgl:(((j1 (gf t q)).length:Nat):Int)=jd t q 3:=by rw[a2n];unfold gf;rw[bjf];exact awm
 have hcm:=b1c (t:=t) (q:=q);have hE3:¬t.rows.length=0->j0 t q 3=((rtN (jd t q 3).toNat t.rows.length:Nat):Int)/\jb t 3 q=((rtD (jd t q 3).toNat t.rows.length:Nat):Int):=fun h=>⟨if_neg h,if_neg h⟩;have hel:=acq (d:=q) (m:=3) hT;refine sx7 ?_;refine m9 0 ?_;refine m9 1 ?_;refine w_5 ?_;refine qcx ayg (hcT) ?_;refine w_3 ?_;refine m9 2 ?_;refine w_6 ?_;refine qcx aon (a83) ?_;refine w_9 ?_;refine cr [0,1,2,3,4] [5,6,7,8,9] rfl ?_;refine ct (E:=cq) ca ?_;refine w_4 ?_;refine m9 3 ?_;refine ce ?_;refine sd ?_;refine aqf 43 rfl rfl rfl ?_;refine fu ?_;refine ct (E:=cq) (L1:=[5,6,7,8,9]) (L2:=[]) ca ?_
 refine rc rfl rfl rfl rfl rfl rfl bd4 (hcL) (⟨CoC.refl _,CoC.one (CoP.sl rfl (.inl rfl) (fun h=>h) (fun i j hi hj=>by
  obtain rfl:i=0:=by omega
  revert j
  exact lt2 (CoP.refl _) (CoP.refl _))),trivial⟩) rfl rfl ?_
 refine rq rfl rfl rfl rfl rfl ?_ (hp:=⟨rfl,Int.le_refl _,by show(0:Int)<1;decide⟩);refine qy ?_;refine m9 4 ?_;refine w_2 ?_;refine f0 ?_;refine w_4 ?_;refine qcx azh (amg t q hT he hl hrr) ?_;refine db ?_;refine qcx azi (b6n t q hT he bmq hl hrr _ rfl) ?_;refine db ?_;refine qcx b5m (bbp t q hT he bmq hl hrr) ?_;refine w_3 ?_;refine m9 5 ?_;refine w_7 ?_;refine qcx azh (amg (tu t (j1 (gf t q))) q (b06 hT) (b6t he) hl hrr) ?_;refine ip ?_;refine qcx a3c (aav t q.lhs hT hl) ?_;refine w_3 ?_;refine m9 6 ?_;refine ip ?_;refine rc rfl rfl rfl rfl rfl rfl a3c (aav t (q.lhs|||q.rhs) hT hor) (⟨CoC.refl _,cci (bOr _ _),trivial⟩) rfl rfl ?_;refine w_3 ?_;refine m9 7 ?_;refine w_7 ?_;refine qcx b9j (bcq (a7 t q.lhs) (a7 t (q.lhs|||q.rhs)) (a6a hT) (a6a hT) rfl) ?_;refine bf3 ?_;refine kg ?_;refine m9 8 ?_;refine w_4 ?_;refine bh 120 rfl rfl rfl ?_;refine d4 22 900 true 2 59 (lf k2C []) bmx rfl (CoP.sl rfl (.inr rfl) (fun h=>h) (fun i j hi _=>absurd hi (bip i))) (.inr rfl) rfl ?_;refine bp (ka 5 (ka 7 (ka 8 (ka 10 (ka 12 (ka 14 (ka 20 (ka 120 (ka 121 kn))))))))) (kb 2 (kb 4 (kb 5 km))) (fun i=>⟨[(22,some (.v (.one (.ref 900 (a31 t q i).length)))),(122,some (vI i))],[(900,some (.arr true 2 59 (a31 t q i).length (lf k2C (a31 t q i))))]⟩) 3 kk ?_;rintro i hi;have hlen:=ave (t:=t) (q:=q) (i:=i);refine w_5 ?_;refine hcd ?_ ?_<;>intro h0
 ·
  have hi3:i<3:=by omega
  have herr:=bc7 (d:=q) hT he (m:=(i:Int)+1);refine db ?_;refine dw ⟨[(5,some _),(7,some _),(8,some _),(10,some _),(12,some _),(14,some _),(20,some _),(22,some _),(120,some _),(121,some _),(122,some _),(24,some (vI ((i:Int)+1)))],[(900,some _),(2,some _),(4,some _),(5,some _)]⟩ ⟨⟨c9,c9,c9,c9,c9,c9,c9,c9,c9,c9,c9,⟨_,rfl,by rcases(show i=0\/i=1\/i=2 by omega)with rfl|rfl|rfl<;>exact CoR.refl _⟩,trivial⟩,uu⟩ ?_;refine w_4 ?_;refine qcx b7e (bdx t q ((i:Int)+1) bmq hT hl hrr) ?_;refine w_3 ?_;refine m9 9 ?_;refine xk ?_;refine hcb ?_ ?_<;>intro h1
  · exfalso;simp_all
  refine w_4 ?_;refine m9 10 ?_;refine r9 11 true ?_;refine w_6 ?_;exact lpx (i+1) ⟨⟨⟨_,rfl,(bq af8)⟩,tt⟩,⟨⟨_,rfl,(jq af8 (CoP.refl _) (CoP.refl _))⟩,uu⟩⟩
 obtain rfl:i=3:=by omega
 refine w_3 ?_;refine bh 22 rfl rfl rfl ?_;refine w_6 ?_;refine be rfl rfl ?_ ?_<;>intro r2
 ·
  have h2:=tz1 r2;(iterate 7 refine qy ?_ (hg:=(gtt r2)));refine rc rfl rfl rfl rfl rfl rfl b7u (bdu (jd t q 3).toNat t.rows.length bmq bmq bmq) (⟨cci (hle.trans (bk0 hen).symm),CoC.refl _,trivial⟩) rfl (gtt r2) ?_;refine qy ?_ (hg:=(gtt r2));refine w_3 ?_;refine az _ rfl ?_ ?_<;>intro r3
  ·
   have h3:=dc r2 r3;exfalso;have hL3:(a31 t q 3).getD 2 default=(j0 t q 3,jb t 3 q):=rfl
   first|(have hp:=hE3 bmq;simp_all;done)|(simp_all;done)
  have h3:=dc r2 r3;refine w_5 ?_;refine be rfl rfl ?_ ?_<;>intro r4
  ·
   have h4:=r4;(iterate 4 refine qy ?_ (hg:=(gtt r4)));refine w_2 ?_;refine be rfl rfl ?_ ?_<;>intro r5
   ·
    have h5:=tz1 (dc r4 r5);(iterate 10 refine qy ?_ (hg:=(gtt r5)));refine w_2 ?_;refine be rfl rfl ?_ ?_<;>intro r6
    · have h6:=tz1 (dc r5 r6);(iterate 6 refine qy ?_ (hg:=(gtt r6)));refine rc rfl rfl rfl rfl rfl rfl aqr (ayt (j0 t q 3).toNat (jb t 3 q).toNat (j0 t q 2).toNat (jb t 2 q).toNat (by have:=a5u (q:=q) (m:=3) hT;omega) (by have:=a6n (q:=q) (m:=3) hT;omega) (by have:=a5u (q:=q) (m:=2) hT;omega) (by have:=a6n (q:=q) (m:=2) hT;omega)) (⟨CoC.of_eq (by rw[bk0 wk,bk0 wc];rfl),CoC.of_eq (by rw[bk0 wk,bk0 wc];rfl),trivial⟩) rfl (gtt r6) ?_;refine qy ?_ (hg:=(gtt r6));refine v_4 ?_;exact⟨ccb (by simp_all),trivial⟩
    have h6:=tz2 (dc r5 r6);exfalso
    first|omega|(simp only[decide_eq_false_iff_not,decide_eq_true_eq]at *;omega)|(simp_all;omega)|(simp_all;done)
   have h5:=tz2 (dc r4 r5);exfalso;simp_all
  have h4:=r4;exfalso;simp_all
 have h2:=tz2 r2;(iterate 9 refine k9 (gft r2) ?_);refine w_9 ?_;refine be rfl rfl ?_ ?_<;>intro r7
 ·
  have h7:=r7;(iterate 4 refine qy ?_ (hg:=(gtt r7)));refine w_2 ?_;refine be rfl rfl ?_ ?_<;>intro r8
  ·
   have h8:=tz1 (dc r7 r8);(iterate 10 refine qy ?_ (hg:=(gtt r8)));refine w_2 ?_;refine be rfl rfl ?_ ?_<;>intro r9
   · have h9:=tz1 (dc r8 r9);(iterate 6 refine qy ?_ (hg:=(gtt r9)));refine rc rfl rfl rfl rfl rfl rfl aqr (ayt (j0 t q 3).toNat (jb t 3 q).toNat (j0 t q 2).toNat (jb t 2 q).toNat (by have:=a5u (q:=q) (m:=3) hT;omega) (by have:=a6n (q:=q) (m:=3) hT;omega) (by have:=a5u (q:=q) (m:=2) hT;omega) (by have:=a6n (q:=q) (m:=2) hT;omega)) (⟨CoC.of_eq (by rw[bk0 wk,bk0 wc];rfl),CoC.of_eq (by rw[bk0 wk,bk0 wc];rfl),trivial⟩) rfl (gtt r9) ?_;refine qy ?_ (hg:=(gtt r9));refine v_4 ?_;exact⟨ccb (by simp_all),trivial⟩
   have h9:=tz2 (dc r8 r9);exfalso
   first|omega|(simp only[decide_eq_false_iff_not,decide_eq_true_eq]at *;omega)|(simp_all;omega)|(simp_all;done)
  have h8:=tz2 (dc r7 r8);exfalso;simp_all
 have h7:=r7;exfalso;simp_all
end
end
section
open Go.Proofs
def b9s (x:ji) (d:Dp) (hx:x.rows.length<=16777216):aa bnb 3 [x.pc,d.pc] (ag [pB true]):=by
 by_cases h:x.rows.length<=8
 · exact b3i x d h _ rfl _ rfl
 exact b07 x d h hx
end
end Go.Hx

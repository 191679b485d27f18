/- A part of the proof: Jw3. -/
import Derived.Test.YtnlcekpflogjkaaGreatDoorTy39
set_option linter.all false
set_option maxRecDepth 100000
set_option maxHeartbeats 1000000
namespace Go.Hx
section
open Go.Proofs
def bxl{p:Prop}(h:p:=by first|exact a8u bwx|exact uy bwx|exact uy bxa):p:=h
def bmo(R:List Row)(ps:List AS)(n:Nat)(hn:n<=16)(hp:0<ps.length)(vs:List Val)(acc:List (List Val))(hv:vs.length=n)(ha:acc.length<=1001):d9 bxn 104 [.one (.ptr 1000 0), .one (.p (vals vs))] [(1000, .box [.p (asl ps), .p (x4 (cn R n)), .p (psl 1 (lvC R n) ps), .ref 1001 acc.length]),(1001, .arr true 1 79 acc.length (lf vlC acc))] (.tup []) [(1000, .box [.p (asl ps), .p (x4 (cn R n)), .p (psl 1 (lvC R n) ps), .ref 1001 (gu R ps (cn R n) 0 vs acc).length]),(1001, .arr true 1 79 (gu R ps (cn R n) 0 vs acc).length (lf vlC (gu R ps (cn R n) 0 vs acc)))] [1000,1001]:=by
 refine hfx (nt:=85) Tryz.func104 ?_;refine cw 1 rfl fun hvn=>?_;refine sv ?_;refine ai (ι:=Nat) (ka 0 (ka 1 (ka 4 (ka 14 (ka 15 kn))))) (kb 1000 (kb 1001 km)) (fun i=>⟨[(16,some (vI i))],[]⟩) (fun i=>i<=ps.length/\∀j,j<i->qa R vs acc.length (ps.getD j default)=false) (fun i=>ps.length-i) (0) (⟨bsx _,bv⟩) kk ?_;rintro i ⟨hi,hI⟩;refine d5 ?_;refine cw 14 rfl fun hpn=>?_;refine w_4 ?_;refine hcd ?_ ?_<;>intro h0
 ·
  refine ahd ?_;refine ak rfl rfl ?_ ?_<;>intro r1
  ·
   have h1:=tz1 r1;(iterate 15 refine k9 (gtf r1) ?_);refine w_4 ?_;refine hrr ?_
   have he:=un (cols:=cn R n) (d:=0) (a9l (ps:=ps) (m:=acc.length) (vs:=vs) (R:=R) (i:=i) bww bxl);rw[he];exact⟨_,_,rfl,bwy,(CoR.refl _),uu⟩
  have h1:=tz2 r1;(iterate 12 refine qy ?_ (hg:=(gff r1)));refine qcx ahc (agt vs (ps.getD i default) bww) ?_ (hg:=(gff r1))
  refine rq (out:=Out.mk (KK.str=KK.str/\MK.ok .str (.s (fj vs (ps.getD i default)))) (bp (.raw (.bool (ol R (ps.getD i default) vs.length (fj vs (ps.getD i default))))))) rfl rfl rfl (congrArg (fun x=>some (Out.mk (KK.str=KK.str/\MK.ok .str (.s (fj vs (ps.getD i default)))) (bp x))) ajo) (gff r1) ?_ (hp:=⟨rfl,amm bww⟩);refine qy ?_ (hg:=(gff r1));refine w_3 ?_;refine al _ rfl ?_ ?_<;>intro r2
  · have h2:=dt (ax r1 r2);refine hrr ?_;have he:=un (cols:=cn R n) (d:=0) (a9l (ps:=ps) (m:=acc.length) (vs:=vs) (R:=R) (i:=i) bww bxl);rw[he];exact⟨_,_,rfl,bwy,(CoR.refl _),uu⟩
  have h2:=du (ax r1 r2);refine w_5 ?_;refine lpz (i+1) kk ?_;exact⟨by show i+1<=_;omega,bc hI (by first|exact a9s bwx bwx|exact a9s bwx bxa)⟩
 obtain rfl:i=ps.length:=by omega
 have hst:=av9 hI;refine fh ?_;refine hcd ?_ ?_<;>intro h3
 · refine w_8 ?_;refine qcx (wgx Tryz.func159) (c78 vs bww) ?_;refine m9 0 ?_;refine r9 1 true ?_;refine w_5 ?_;refine hrr ?_;have he:=b2d (cols:=cn R n) hst;rw[he];exact⟨_,_,rfl,bwy,(CoR.refl _),⟨⟨_,rfl,⟨CoH.refl _,CoH.refl _,CoH.refl _,congrArg (HV.ref 1001) bx0,trivial⟩⟩,⟨_,rfl,bw rfl (CoP.refl _)⟩,trivial⟩⟩
 exact absurd ((by rw[a1q];omega):(vs.length:Int)=((cn R n).length:Int)) bwx
def bnh(R:List Row)(ps:List AS)(n:Nat)(hn:n<=16)(hp:0<ps.length)(d:Nat)(IH:∀(vs:List Val) (acc:List (List Val)),vs.length+d=n->acc.length<=1001->d9 bxn 104 [.one (.ptr 1000 0), .one (.p (vals vs))] [(1000, .box [.p (asl ps), .p (x4 (cn R n)), .p (psl 1 (lvC R n) ps), .ref 1001 acc.length]),(1001, .arr true 1 79 acc.length (lf vlC acc))] (.tup []) [(1000, .box [.p (asl ps), .p (x4 (cn R n)), .p (psl 1 (lvC R n) ps), .ref 1001 (gu R ps (cn R n) d vs acc).length]),(1001, .arr true 1 79 (gu R ps (cn R n) d vs acc).length (lf vlC (gu R ps (cn R n) d vs acc)))] [1000,1001])(vs:List Val)(acc:List (List Val))(hv:vs.length+(d+1)=n)(ha:acc.length<=1001):d9 bxn 104 [.one (.ptr 1000 0), .one (.p (vals vs))] [(1000, .box [.p (asl ps), .p (x4 (cn R n)), .p (psl 1 (lvC R n) ps), .ref 1001 acc.length]),(1001, .arr true 1 79 acc.length (lf vlC acc))] (.tup []) [(1000, .box [.p (asl ps), .p (x4 (cn R n)), .p (psl 1 (lvC R n) ps), .ref 1001 (gu R ps (cn R n) (d+1) vs acc).length]),(1001, .arr true 1 79 (gu R ps (cn R n) (d+1) vs acc).length (lf vlC (gu R ps (cn R n) (d+1) vs acc)))] [1000,1001]:=by
 refine hfx (nt:=85) Tryz.func104 ?_;refine cw 1 rfl fun hvn=>?_;refine sv ?_;refine ai (ι:=Nat) (ka 0 (ka 1 (ka 4 (ka 14 (ka 15 kn))))) (kb 1000 (kb 1001 km)) (fun i=>⟨[(16,some (vI i))],[]⟩) (fun i=>i<=ps.length/\∀j,j<i->qa R vs acc.length (ps.getD j default)=false) (fun i=>ps.length-i) (0) (⟨bsx _,bv⟩) kk ?_;rintro i ⟨hi,hI⟩;refine d5 ?_;refine cw 14 rfl fun hpn=>?_;refine w_4 ?_;refine hcd ?_ ?_<;>intro h0
 ·
  refine ahd ?_;refine ak rfl rfl ?_ ?_<;>intro r1
  ·
   have h1:=tz1 r1;(iterate 15 refine k9 (gtf r1) ?_);refine w_4 ?_;refine hrr ?_
   have he:=un (cols:=cn R n) (d:=(d+1)) (a9l (ps:=ps) (m:=acc.length) (vs:=vs) (R:=R) (i:=i) bww bxl);rw[he];exact⟨_,_,rfl,bwy,(CoR.refl _),uu⟩
  have h1:=tz2 r1;(iterate 12 refine qy ?_ (hg:=(gff r1)));refine qcx ahc (agt vs (ps.getD i default) bww) ?_ (hg:=(gff r1))
  refine rq (out:=Out.mk (KK.str=KK.str/\MK.ok .str (.s (fj vs (ps.getD i default)))) (bp (.raw (.bool (ol R (ps.getD i default) vs.length (fj vs (ps.getD i default))))))) rfl rfl rfl (congrArg (fun x=>some (Out.mk (KK.str=KK.str/\MK.ok .str (.s (fj vs (ps.getD i default)))) (bp x))) ajo) (gff r1) ?_ (hp:=⟨rfl,amm bww⟩);refine qy ?_ (hg:=(gff r1));refine w_3 ?_;refine al _ rfl ?_ ?_<;>intro r2
  · have h2:=dt (ax r1 r2);refine hrr ?_;have he:=un (cols:=cn R n) (d:=(d+1)) (a9l (ps:=ps) (m:=acc.length) (vs:=vs) (R:=R) (i:=i) bww bxl);rw[he];exact⟨_,_,rfl,bwy,(CoR.refl _),uu⟩
  have h2:=du (ax r1 r2);refine w_5 ?_;refine lpz (i+1) kk ?_;exact⟨by show i+1<=_;omega,bc hI (by first|exact a9s bwx bwx|exact a9s bwx bxa)⟩
 obtain rfl:i=ps.length:=by omega
 have hst:=av9 hI;refine fh ?_;refine hcd ?_ ?_<;>intro h3
 · have hcl:=a1q (R:=R) (n:=n);exact absurd (h3) bww
 refine w_8 ?_;refine rq rfl rfl rfl rfl rfl ?_ (hp:=⟨rfl,by omega,by rw[a1q];omega⟩);refine w_5 ?_;refine br (ka 0 (ka 1 (ka 4 (ka 69 (ka 70 kn))))) km (fun i=>⟨[(71,some (vI i))],[(1000,some (.box [.p (asl ps), .p (x4 (cn R n)), .p (psl 1 (lvC R n) ps), .ref 1001 (zn R ps (cn R n) d vs acc i).length])),(1001,some (.arr true 1 79 (zn R ps (cn R n) d vs acc i).length (lf vlC (zn R ps (cn R n) d vs acc i))))]⟩) (((cn R n).getD vs.length default).length) kk ?_;rintro i hi;refine d5 ?_;refine cw 69 rfl fun hcn=>?_;simp only[ty]at hcn;refine w_4 ?_;refine hcd ?_ ?_<;>intro h4
 · refine w_7 ?_;refine m9 0 ?_;refine w_9 ?_;refine m9 1 ?_;refine r9 2 true ?_;refine j7 rfl rfl rfl rfl rfl rfl (wgx Tryz.func104) (((IH (vs++[(((cn R n).getD vs.length default).getD i default)]) (zn R ps (cn R n) d vs acc i) (by rw[bsy,bub];omega) (b5s hp ha)).eat1 (id:=0) (n:=(vs++[(((cn R n).getD vs.length default).getD i default)]).length) (s:=3) (wr:=true) (e:=84) (F:=lf Val.c (vs++[(((cn R n).getD vs.length default).getD i default)])) (args':=[.one (.ptr 1000 0), .one (.ref 0 (vs++[(((cn R n).getD vs.length default).getD i default)]).length)]) ⟨.inl rfl, .inr ⟨rfl,rfl⟩,trivial⟩ rfl (by intro k hk;simp at hk;omega)).swap 0 2) (⟨rfl,congrArg (HV.ref 2) (by rw[bsy];rfl),trivial⟩) ⟨⟨_,rfl,vw (l:=vs) (x:=(((cn R n).getD vs.length default).getD i default)) rfl (aha (CoP.refl _) (CoP.refl _) (CoP.refl _))⟩,uu⟩ rfl rfl ?_;refine w_6 ?_;exact lpx (i+1) ⟨tt,⟨⟨_,rfl,(by rw[ajg bww];exact CoO.refl _)⟩,⟨_,rfl,(by rw[ajg bww];exact CoO.refl _)⟩,trivial⟩⟩
 obtain rfl:i=((cn R n).getD vs.length default).length:=by omega
 refine ck ?_;refine⟨.inl rfl, ?_⟩;have he:=ayi (cols:=cn R n) (d:=d) hst;rw[he];exact⟨_,_,rfl,bwy,(CoR.refl _),uu⟩
def bl5 (R:List Row) (ps:List AS) (n:Nat) (hn:n<=16) (hp:0<ps.length):∀(d:Nat) (vs:List Val) (acc:List (List Val)),vs.length+d=n->acc.length<=1001->d9 bxn 104 [.one (.ptr 1000 0), .one (.p (vals vs))] [(1000, .box [.p (asl ps), .p (x4 (cn R n)), .p (psl 1 (lvC R n) ps), .ref 1001 acc.length]),(1001, .arr true 1 79 acc.length (lf vlC acc))] (.tup []) [(1000, .box [.p (asl ps), .p (x4 (cn R n)), .p (psl 1 (lvC R n) ps), .ref 1001 (gu R ps (cn R n) d vs acc).length]),(1001, .arr true 1 79 (gu R ps (cn R n) d vs acc).length (lf vlC (gu R ps (cn R n) d vs acc)))] [1000,1001]
 |0,vs,acc,hv,ha=>bmo R ps n hn hp vs acc hv ha
 |d+1,vs,acc,hv,ha=>bnh R ps n hn hp d (fun vs acc hv ha=>bl5 R ps n hn hp d vs acc hv ha) vs acc hv ha
end
end Go.Hx

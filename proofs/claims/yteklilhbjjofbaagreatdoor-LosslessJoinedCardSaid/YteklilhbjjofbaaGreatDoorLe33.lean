/- A part of the proof: Jw3. -/
import Derived.Test.YteklilhbjjofbaaGreatDoorLe30
import Derived.Test.YteklilhbjjofbaaGreatDoorLe32
set_option linter.all false
set_option maxRecDepth 100000
set_option maxHeartbeats 1000000
namespace Go.Hx
section
open Go.Proofs
def b62 {p:Prop} (h:p:=by first | exact a15 b5i | exact ni b5i | exact ni b5r):p:=h
def ax6 (R:List Row) (ps:List AS) (n:Nat) (hn:n <= 16) (hp:0 < ps.length) (vs:List Val) (acc:List (List Val)) (hv:vs.length = n) (ha:acc.length <= 1001):ci b65 66 [.one (.ptr 1000 0), .one (.p (vals vs))] [(1000, .box [.p (asl ps), .p (pz (be R n)), .p (psl 1 (lvC R n) ps), .ref 1001 acc.length]),(1001, .arr true 1 110 acc.length (lf vlC acc))] (.tup []) [(1000, .box [.p (asl ps), .p (pz (be R n)), .p (psl 1 (lvC R n) ps), .ref 1001 (dx R ps (be R n) 0 vs acc).length]),(1001, .arr true 1 110 (dx R ps (be R n) 0 vs acc).length (lf vlC (dx R ps (be R n) 0 vs acc)))] [1000,1001]:=by
 refine hfx (nt:=85) Tryz.func66 ?_;refine df 1 rfl fun hvn=>?_;refine v2 ?_;refine ai (ι:=Nat) (ka 0 (ka 1 (ka 4 (ka 14 (ka 15 kn))))) (kb 1000 (kb 1001 km)) (fun i=>⟨[(16,some (vI i))],[]⟩) (fun i=>i <= ps.length /\ ∀ j,j < i -> kg R vs acc.length (ps.getD j default) = false) (fun i=>ps.length - i) (0) (⟨b2n _,bh⟩) kk ?_;rintro i ⟨hi,hI⟩;refine dn ?_;refine df 14 rfl fun hpn=>?_;refine w_4 ?_;refine hcd (fun h0=>?_) (fun h0=>?_)
 ·
  refine ank ?_;refine ab rfl rfl (fun r1=>?_) (fun r1=>?_)
  ·
   have h1:=tz1 r1;(iterate 15 refine k9 (gtf r1) ?_);refine w_4 ?_;refine hrr ?_
   have he:=ne (cols:=be R n) (d:=0) (a0i (ps:=ps) (m:=acc.length) (vs:=vs) (R:=R) (i:=i) b5h b62);rw [he];exact ⟨_,_,rfl,b5j,(CoR.refl _),uu⟩
  have h1:=tz2 r1;(iterate 12 refine qy ?_ (hg:=(gff r1)));refine qcx aal (a5l vs (ps.getD i default) b5h) ?_ (hg:=(gff r1))
  refine rq (out:=Out.mk (KK.str = KK.str /\ MK.ok .str (.s (ff vs (ps.getD i default)))) (az (.raw (.bool (jr R (ps.getD i default) vs.length (ff vs (ps.getD i default))))))) rfl rfl rfl (congrArg (fun x=>some (Out.mk (KK.str = KK.str /\ MK.ok .str (.s (ff vs (ps.getD i default)))) (az x))) a87) (gff r1) ?_ (hp:=⟨rfl,aa3 b5h⟩);refine qy ?_ (hg:=(gff r1));refine w_3 ?_;refine aj _ rfl (fun r2=>?_) (fun r2=>?_)
  · have h2:=ec (ao r1 r2);refine hrr ?_;have he:=ne (cols:=be R n) (d:=0) (a0i (ps:=ps) (m:=acc.length) (vs:=vs) (R:=R) (i:=i) b5h b62);rw [he];exact ⟨_,_,rfl,b5j,(CoR.refl _),uu⟩
  have h2:=eg (ao r1 r2);refine w_5 ?_;refine lpz (i + 1) kk ?_;exact ⟨by show i + 1 <= _;omega,ax hI (by first | exact a0v b5i b5i | exact a0v b5i b5r)⟩
 obtain rfl:i = ps.length:=by omega
 have hst:=af2 hI;refine su ?_;refine hcd (fun h3=>?_) (fun h3=>?_)
 · refine w_8 ?_;refine qcx (wgx Tryz.func107) (c78 vs b5h) ?_;refine m9 0 ?_;refine r9 1 true ?_;refine w_5 ?_;refine hrr ?_;have he:=ak5 (cols:=be R n) hst;rw [he];exact ⟨_,_,rfl,b5j,(CoR.refl _),⟨⟨_,rfl,⟨CoH.refl _,CoH.refl _,CoH.refl _,congrArg (HV.ref 1001) b5k,trivial⟩⟩,⟨_,rfl,ou rfl (CoP.refl _)⟩,trivial⟩⟩
 exact absurd ((by rw [ua];omega):(vs.length:Int) = ((be R n).length:Int)) b5i
def axx (R:List Row) (ps:List AS) (n:Nat) (hn:n <= 16) (hp:0 < ps.length) (d:Nat) (IH:∀ (vs:List Val) (acc:List (List Val)),vs.length + d = n -> acc.length <= 1001 -> ci b65 66 [.one (.ptr 1000 0), .one (.p (vals vs))] [(1000, .box [.p (asl ps), .p (pz (be R n)), .p (psl 1 (lvC R n) ps), .ref 1001 acc.length]),(1001, .arr true 1 110 acc.length (lf vlC acc))] (.tup []) [(1000, .box [.p (asl ps), .p (pz (be R n)), .p (psl 1 (lvC R n) ps), .ref 1001 (dx R ps (be R n) d vs acc).length]),(1001, .arr true 1 110 (dx R ps (be R n) d vs acc).length (lf vlC (dx R ps (be R n) d vs acc)))] [1000,1001]) (vs:List Val) (acc:List (List Val)) (hv:vs.length + (d + 1) = n) (ha:acc.length <= 1001):ci b65 66 [.one (.ptr 1000 0), .one (.p (vals vs))] [(1000, .box [.p (asl ps), .p (pz (be R n)), .p (psl 1 (lvC R n) ps), .ref 1001 acc.length]),(1001, .arr true 1 110 acc.length (lf vlC acc))] (.tup []) [(1000, .box [.p (asl ps), .p (pz (be R n)), .p (psl 1 (lvC R n) ps), .ref 1001 (dx R ps (be R n) (d + 1) vs acc).length]),(1001, .arr true 1 110 (dx R ps (be R n) (d + 1) vs acc).length (lf vlC (dx R ps (be R n) (d + 1) vs acc)))] [1000,1001]:=by
 refine hfx (nt:=85) Tryz.func66 ?_;refine df 1 rfl fun hvn=>?_;refine v2 ?_;refine ai (ι:=Nat) (ka 0 (ka 1 (ka 4 (ka 14 (ka 15 kn))))) (kb 1000 (kb 1001 km)) (fun i=>⟨[(16,some (vI i))],[]⟩) (fun i=>i <= ps.length /\ ∀ j,j < i -> kg R vs acc.length (ps.getD j default) = false) (fun i=>ps.length - i) (0) (⟨b2n _,bh⟩) kk ?_;rintro i ⟨hi,hI⟩;refine dn ?_;refine df 14 rfl fun hpn=>?_;refine w_4 ?_;refine hcd (fun h0=>?_) (fun h0=>?_)
 ·
  refine ank ?_;refine ab rfl rfl (fun r1=>?_) (fun r1=>?_)
  ·
   have h1:=tz1 r1;(iterate 15 refine k9 (gtf r1) ?_);refine w_4 ?_;refine hrr ?_
   have he:=ne (cols:=be R n) (d:=(d + 1)) (a0i (ps:=ps) (m:=acc.length) (vs:=vs) (R:=R) (i:=i) b5h b62);rw [he];exact ⟨_,_,rfl,b5j,(CoR.refl _),uu⟩
  have h1:=tz2 r1;(iterate 12 refine qy ?_ (hg:=(gff r1)));refine qcx aal (a5l vs (ps.getD i default) b5h) ?_ (hg:=(gff r1))
  refine rq (out:=Out.mk (KK.str = KK.str /\ MK.ok .str (.s (ff vs (ps.getD i default)))) (az (.raw (.bool (jr R (ps.getD i default) vs.length (ff vs (ps.getD i default))))))) rfl rfl rfl (congrArg (fun x=>some (Out.mk (KK.str = KK.str /\ MK.ok .str (.s (ff vs (ps.getD i default)))) (az x))) a87) (gff r1) ?_ (hp:=⟨rfl,aa3 b5h⟩);refine qy ?_ (hg:=(gff r1));refine w_3 ?_;refine aj _ rfl (fun r2=>?_) (fun r2=>?_)
  · have h2:=ec (ao r1 r2);refine hrr ?_;have he:=ne (cols:=be R n) (d:=(d + 1)) (a0i (ps:=ps) (m:=acc.length) (vs:=vs) (R:=R) (i:=i) b5h b62);rw [he];exact ⟨_,_,rfl,b5j,(CoR.refl _),uu⟩
  have h2:=eg (ao r1 r2);refine w_5 ?_;refine lpz (i + 1) kk ?_;exact ⟨by show i + 1 <= _;omega,ax hI (by first | exact a0v b5i b5i | exact a0v b5i b5r)⟩
 obtain rfl:i = ps.length:=by omega
 have hst:=af2 hI;refine su ?_;refine hcd (fun h3=>?_) (fun h3=>?_)
 · have hcl:=ua (R:=R) (n:=n);exact absurd (h3) b5h
 refine w_8 ?_;refine rq rfl rfl rfl rfl rfl ?_ (hp:=⟨rfl,by omega,by rw [ua];omega⟩);refine w_5 ?_;refine c7 (ka 0 (ka 1 (ka 4 (ka 69 (ka 70 kn))))) km (fun i=>⟨[(71,some (vI i))],[(1000,some (.box [.p (asl ps), .p (pz (be R n)), .p (psl 1 (lvC R n) ps), .ref 1001 (sk R ps (be R n) d vs acc i).length])),(1001,some (.arr true 1 110 (sk R ps (be R n) d vs acc i).length (lf vlC (sk R ps (be R n) d vs acc i))))]⟩) (((be R n).getD vs.length default).length) kk ?_;rintro i hi;refine dn ?_;refine df 69 rfl fun hcn=>?_;simp only [ty] at hcn;refine w_4 ?_;refine hcd (fun h4=>?_) (fun h4=>?_)
 · refine w_7 ?_;refine m9 0 ?_;refine w_9 ?_;refine m9 1 ?_;refine r9 2 true ?_;refine gl rfl rfl rfl rfl rfl rfl (wgx Tryz.func66) (((IH (vs ++ [(((be R n).getD vs.length default).getD i default)]) (sk R ps (be R n) d vs acc i) (by rw [b2v,b3q];omega) (aly hp ha)).eat1 (id:=0) (n:=(vs ++ [(((be R n).getD vs.length default).getD i default)]).length) (s:=3) (wr:=true) (e:=114) (F:=lf Val.c (vs ++ [(((be R n).getD vs.length default).getD i default)])) (args':=[.one (.ptr 1000 0), .one (.ref 0 (vs ++ [(((be R n).getD vs.length default).getD i default)]).length)]) ⟨.inl rfl, .inr ⟨rfl,rfl⟩,trivial⟩ rfl (by intro k hk;simp at hk;omega)).swap 0 2) (⟨rfl,congrArg (HV.ref 2) (by rw [b2v];rfl),trivial⟩) ⟨⟨_,rfl,n4 (l:=vs) (x:=(((be R n).getD vs.length default).getD i default)) rfl (sw (CoP.refl _) (CoP.refl _) (CoP.refl _))⟩,uu⟩ rfl rfl ?_;refine w_6 ?_;exact lpx (i + 1) ⟨tt,⟨⟨_,rfl,(by rw [a7v b5h];exact CoO.refl _)⟩,⟨_,rfl,(by rw [a7v b5h];exact CoO.refl _)⟩,trivial⟩⟩
 obtain rfl:i = ((be R n).getD vs.length default).length:=by omega
 refine c6 ?_;refine ⟨.inl rfl, ?_⟩;have he:=ako (cols:=be R n) (d:=d) hst;rw [he];exact ⟨_,_,rfl,b5j,(CoR.refl _),uu⟩
def atc (R:List Row) (ps:List AS) (n:Nat) (hn:n <= 16) (hp:0 < ps.length):∀ (d:Nat) (vs:List Val) (acc:List (List Val)),vs.length + d = n -> acc.length <= 1001 -> ci b65 66 [.one (.ptr 1000 0), .one (.p (vals vs))] [(1000, .box [.p (asl ps), .p (pz (be R n)), .p (psl 1 (lvC R n) ps), .ref 1001 acc.length]),(1001, .arr true 1 110 acc.length (lf vlC acc))] (.tup []) [(1000, .box [.p (asl ps), .p (pz (be R n)), .p (psl 1 (lvC R n) ps), .ref 1001 (dx R ps (be R n) d vs acc).length]),(1001, .arr true 1 110 (dx R ps (be R n) d vs acc).length (lf vlC (dx R ps (be R n) d vs acc)))] [1000,1001]
 | 0,vs,acc,hv,ha=>ax6 R ps n hn hp vs acc hv ha
 | d + 1,vs,acc,hv,ha=>axx R ps n hn hp d (fun vs acc hv ha=>atc R ps n hn hp d vs acc hv ha) vs acc hv ha
end
end Go.Hx

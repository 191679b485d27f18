/- A part of the proof: Jw3. -/
import Derived.Test.YteklilhbjjofbaaGreatDoorLc31
set_option linter.all false
set_option maxRecDepth 100000
set_option maxHeartbeats 1000000
namespace Go.Hx
section
open Go.Proofs
def b6d {p:Prop} (h:p:=by first | exact a0y b5t | exact ns b5t | exact ns b62):p:=h
def axe (R:List Row) (ps:List AS) (n:Nat) (hn:n <= 16) (hp:0 < ps.length) (vs:List Val) (acc:List (List Val)) (hv:vs.length = n) (ha:acc.length <= 1001):cw b6g 66 [.one (.ptr 1000 0), .one (.p (vals vs))] [(1000, .box [.p (asl ps), .p (pn (bc R n)), .p (psl 1 (lvC R n) ps), .ref 1001 acc.length]),(1001, .arr true 1 110 acc.length (lf vlC acc))] (.tup []) [(1000, .box [.p (asl ps), .p (pn (bc R n)), .p (psl 1 (lvC R n) ps), .ref 1001 (dp R ps (bc R n) 0 vs acc).length]),(1001, .arr true 1 110 (dp R ps (bc R n) 0 vs acc).length (lf vlC (dp R ps (bc R n) 0 vs acc)))] [1000,1001]:=by
 refine hfx (nt:=85) Tryz.func66 ?_;refine ci 1 rfl fun hvn=>?_;refine uw ?_;refine ah (ι:=Nat) (ka 0 (ka 1 (ka 4 (ka 14 (ka 15 kn))))) (kb 1000 (kb 1001 km)) (fun i=>⟨[(16,some (vI i))],[]⟩) (fun i=>i <= ps.length /\ ∀ j,j < i -> kf R vs acc.length (ps.getD j default) = false) (fun i=>ps.length - i) (0) (⟨b2w _,b7⟩) kk ?_;rintro i ⟨hi,hI⟩;refine dc ?_;refine ci 14 rfl fun hpn=>?_;refine w_4 ?_;refine hcd (fun h0=>?_) (fun h0=>?_)
 ·
  refine anf ?_;refine ae rfl rfl (fun r1=>?_) (fun r1=>?_)
  ·
   have h1:=tz1 r1;(iterate 15 refine k9 (gtf r1) ?_);refine w_4 ?_;refine hrr ?_
   have he:=ng (cols:=bc R n) (d:=0) (a13 (ps:=ps) (m:=acc.length) (vs:=vs) (R:=R) (i:=i) b5s b6d);rw [he];exact ⟨_,_,rfl,b5u,(CoR.refl _),uu⟩
  have h1:=tz2 r1;(iterate 12 refine qy ?_ (hg:=(gff r1)));refine qcx ace (a5f vs (ps.getD i default) b5s) ?_ (hg:=(gff r1))
  refine rq (out:=Out.mk (KK.str = KK.str /\ MK.ok .str (.s (er vs (ps.getD i default)))) (b4 (.raw (.bool (jp R (ps.getD i default) vs.length (er vs (ps.getD i default))))))) rfl rfl rfl (congrArg (fun x=>some (Out.mk (KK.str = KK.str /\ MK.ok .str (.s (er vs (ps.getD i default)))) (b4 x))) a7a) (gff r1) ?_ (hp:=⟨rfl,a9v b5s⟩);refine qy ?_ (hg:=(gff r1));refine w_3 ?_;refine am _ rfl (fun r2=>?_) (fun r2=>?_)
  · have h2:=ez (ar r1 r2);refine hrr ?_;have he:=ng (cols:=bc R n) (d:=0) (a13 (ps:=ps) (m:=acc.length) (vs:=vs) (R:=R) (i:=i) b5s b6d);rw [he];exact ⟨_,_,rfl,b5u,(CoR.refl _),uu⟩
  have h2:=f0 (ar r1 r2);refine w_5 ?_;refine lpz (i + 1) kk ?_;exact ⟨by show i + 1 <= _;omega,av hI (by first | exact a0u b5t b5t | exact a0u b5t b62)⟩
 obtain rfl:i = ps.length:=by omega
 have hst:=adp hI;refine sv ?_;refine hcd (fun h3=>?_) (fun h3=>?_)
 · refine w_8 ?_;refine qcx (wgx Tryz.func107) (c78 vs b5s) ?_;refine m9 0 ?_;refine r9 1 true ?_;refine w_5 ?_;refine hrr ?_;have he:=aie (cols:=bc R n) hst;rw [he];exact ⟨_,_,rfl,b5u,(CoR.refl _),⟨⟨_,rfl,⟨CoH.refl _,CoH.refl _,CoH.refl _,congrArg (HV.ref 1001) b5v,trivial⟩⟩,⟨_,rfl,mw rfl (CoP.refl _)⟩,trivial⟩⟩
 exact absurd ((by rw [ud];omega):(vs.length:Int) = ((bc R n).length:Int)) b5t
def ax1 (R:List Row) (ps:List AS) (n:Nat) (hn:n <= 16) (hp:0 < ps.length) (d:Nat) (IH:∀ (vs:List Val) (acc:List (List Val)),vs.length + d = n -> acc.length <= 1001 -> cw b6g 66 [.one (.ptr 1000 0), .one (.p (vals vs))] [(1000, .box [.p (asl ps), .p (pn (bc R n)), .p (psl 1 (lvC R n) ps), .ref 1001 acc.length]),(1001, .arr true 1 110 acc.length (lf vlC acc))] (.tup []) [(1000, .box [.p (asl ps), .p (pn (bc R n)), .p (psl 1 (lvC R n) ps), .ref 1001 (dp R ps (bc R n) d vs acc).length]),(1001, .arr true 1 110 (dp R ps (bc R n) d vs acc).length (lf vlC (dp R ps (bc R n) d vs acc)))] [1000,1001]) (vs:List Val) (acc:List (List Val)) (hv:vs.length + (d + 1) = n) (ha:acc.length <= 1001):cw b6g 66 [.one (.ptr 1000 0), .one (.p (vals vs))] [(1000, .box [.p (asl ps), .p (pn (bc R n)), .p (psl 1 (lvC R n) ps), .ref 1001 acc.length]),(1001, .arr true 1 110 acc.length (lf vlC acc))] (.tup []) [(1000, .box [.p (asl ps), .p (pn (bc R n)), .p (psl 1 (lvC R n) ps), .ref 1001 (dp R ps (bc R n) (d + 1) vs acc).length]),(1001, .arr true 1 110 (dp R ps (bc R n) (d + 1) vs acc).length (lf vlC (dp R ps (bc R n) (d + 1) vs acc)))] [1000,1001]:=by
 refine hfx (nt:=85) Tryz.func66 ?_;refine ci 1 rfl fun hvn=>?_;refine uw ?_;refine ah (ι:=Nat) (ka 0 (ka 1 (ka 4 (ka 14 (ka 15 kn))))) (kb 1000 (kb 1001 km)) (fun i=>⟨[(16,some (vI i))],[]⟩) (fun i=>i <= ps.length /\ ∀ j,j < i -> kf R vs acc.length (ps.getD j default) = false) (fun i=>ps.length - i) (0) (⟨b2w _,b7⟩) kk ?_;rintro i ⟨hi,hI⟩;refine dc ?_;refine ci 14 rfl fun hpn=>?_;refine w_4 ?_;refine hcd (fun h0=>?_) (fun h0=>?_)
 ·
  refine anf ?_;refine ae rfl rfl (fun r1=>?_) (fun r1=>?_)
  ·
   have h1:=tz1 r1;(iterate 15 refine k9 (gtf r1) ?_);refine w_4 ?_;refine hrr ?_
   have he:=ng (cols:=bc R n) (d:=(d + 1)) (a13 (ps:=ps) (m:=acc.length) (vs:=vs) (R:=R) (i:=i) b5s b6d);rw [he];exact ⟨_,_,rfl,b5u,(CoR.refl _),uu⟩
  have h1:=tz2 r1;(iterate 12 refine qy ?_ (hg:=(gff r1)));refine qcx ace (a5f vs (ps.getD i default) b5s) ?_ (hg:=(gff r1))
  refine rq (out:=Out.mk (KK.str = KK.str /\ MK.ok .str (.s (er vs (ps.getD i default)))) (b4 (.raw (.bool (jp R (ps.getD i default) vs.length (er vs (ps.getD i default))))))) rfl rfl rfl (congrArg (fun x=>some (Out.mk (KK.str = KK.str /\ MK.ok .str (.s (er vs (ps.getD i default)))) (b4 x))) a7a) (gff r1) ?_ (hp:=⟨rfl,a9v b5s⟩);refine qy ?_ (hg:=(gff r1));refine w_3 ?_;refine am _ rfl (fun r2=>?_) (fun r2=>?_)
  · have h2:=ez (ar r1 r2);refine hrr ?_;have he:=ng (cols:=bc R n) (d:=(d + 1)) (a13 (ps:=ps) (m:=acc.length) (vs:=vs) (R:=R) (i:=i) b5s b6d);rw [he];exact ⟨_,_,rfl,b5u,(CoR.refl _),uu⟩
  have h2:=f0 (ar r1 r2);refine w_5 ?_;refine lpz (i + 1) kk ?_;exact ⟨by show i + 1 <= _;omega,av hI (by first | exact a0u b5t b5t | exact a0u b5t b62)⟩
 obtain rfl:i = ps.length:=by omega
 have hst:=adp hI;refine sv ?_;refine hcd (fun h3=>?_) (fun h3=>?_)
 · have hcl:=ud (R:=R) (n:=n);exact absurd (h3) b5s
 refine w_8 ?_;refine rq rfl rfl rfl rfl rfl ?_ (hp:=⟨rfl,by omega,by rw [ud];omega⟩);refine w_5 ?_;refine cj (ka 0 (ka 1 (ka 4 (ka 69 (ka 70 kn))))) km (fun i=>⟨[(71,some (vI i))],[(1000,some (.box [.p (asl ps), .p (pn (bc R n)), .p (psl 1 (lvC R n) ps), .ref 1001 (sb R ps (bc R n) d vs acc i).length])),(1001,some (.arr true 1 110 (sb R ps (bc R n) d vs acc i).length (lf vlC (sb R ps (bc R n) d vs acc i))))]⟩) (((bc R n).getD vs.length default).length) kk ?_;rintro i hi;refine dc ?_;refine ci 69 rfl fun hcn=>?_;simp only [ty] at hcn;refine w_4 ?_;refine hcd (fun h4=>?_) (fun h4=>?_)
 · refine w_7 ?_;refine m9 0 ?_;refine w_9 ?_;refine m9 1 ?_;refine r9 2 true ?_;refine jq rfl rfl rfl rfl rfl rfl (wgx Tryz.func66) (((IH (vs ++ [(((bc R n).getD vs.length default).getD i default)]) (sb R ps (bc R n) d vs acc i) (by rw [b36,b4b];omega) (am2 hp ha)).eat1 (id:=0) (n:=(vs ++ [(((bc R n).getD vs.length default).getD i default)]).length) (s:=3) (wr:=true) (e:=114) (F:=lf Val.c (vs ++ [(((bc R n).getD vs.length default).getD i default)])) (args':=[.one (.ptr 1000 0), .one (.ref 0 (vs ++ [(((bc R n).getD vs.length default).getD i default)]).length)]) ⟨.inl rfl, .inr ⟨rfl,rfl⟩,trivial⟩ rfl (by intro k hk;simp at hk;omega)).swap 0 2) (⟨rfl,congrArg (HV.ref 2) (by rw [b36];rfl),trivial⟩) ⟨⟨_,rfl,sa (l:=vs) (x:=(((bc R n).getD vs.length default).getD i default)) rfl (a2r (CoP.refl _) (CoP.refl _) (CoP.refl _))⟩,uu⟩ rfl rfl ?_;refine w_6 ?_;exact lpx (i + 1) ⟨tt,⟨⟨_,rfl,(by rw [a7h b5s];exact CoO.refl _)⟩,⟨_,rfl,(by rw [a7h b5s];exact CoO.refl _)⟩,trivial⟩⟩
 obtain rfl:i = ((bc R n).getD vs.length default).length:=by omega
 refine c4 ?_;refine ⟨.inl rfl, ?_⟩;have he:=ajg (cols:=bc R n) (d:=d) hst;rw [he];exact ⟨_,_,rfl,b5u,(CoR.refl _),uu⟩
def au2 (R:List Row) (ps:List AS) (n:Nat) (hn:n <= 16) (hp:0 < ps.length):∀ (d:Nat) (vs:List Val) (acc:List (List Val)),vs.length + d = n -> acc.length <= 1001 -> cw b6g 66 [.one (.ptr 1000 0), .one (.p (vals vs))] [(1000, .box [.p (asl ps), .p (pn (bc R n)), .p (psl 1 (lvC R n) ps), .ref 1001 acc.length]),(1001, .arr true 1 110 acc.length (lf vlC acc))] (.tup []) [(1000, .box [.p (asl ps), .p (pn (bc R n)), .p (psl 1 (lvC R n) ps), .ref 1001 (dp R ps (bc R n) d vs acc).length]),(1001, .arr true 1 110 (dp R ps (bc R n) d vs acc).length (lf vlC (dp R ps (bc R n) d vs acc)))] [1000,1001]
 | 0,vs,acc,hv,ha=>axe R ps n hn hp vs acc hv ha
 | d + 1,vs,acc,hv,ha=>ax1 R ps n hn hp d (fun vs acc hv ha=>au2 R ps n hn hp d vs acc hv ha) vs acc hv ha
end
end Go.Hx

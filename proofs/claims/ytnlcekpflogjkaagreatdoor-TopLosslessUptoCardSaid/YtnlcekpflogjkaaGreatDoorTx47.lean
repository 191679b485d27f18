/- A part of the proof: Jw3. -/
import Derived.Test.YtnlcekpflogjkaaGreatDoorTx43
set_option linter.all false
set_option maxRecDepth 100000
set_option maxHeartbeats 1000000
namespace Go.Hx
section
open Go.Proofs
def bvy {p:Prop} (h:p:=by first | exact a94 bva | exact uf bva | exact uf bvl):p:=h
def bm5 (R:List Row) (ps:List AS) (n:Nat) (hn:n <= 16) (hp:0 < ps.length) (vs:List Val) (acc:List (List Val)) (hv:vs.length = n) (ha:acc.length <= 1001):cz bw0 104 [.one (.ptr 1000 0), .one (.p (vals vs))] [(1000, .box [.p (asl ps), .p (xc (ca R n)), .p (psl 1 (lvC R n) ps), .ref 1001 acc.length]),(1001, .arr true 1 79 acc.length (lf vlC acc))] (.tup []) [(1000, .box [.p (asl ps), .p (xc (ca R n)), .p (psl 1 (lvC R n) ps), .ref 1001 (i9 R ps (ca R n) 0 vs acc).length]),(1001, .arr true 1 79 (i9 R ps (ca R n) 0 vs acc).length (lf vlC (i9 R ps (ca R n) 0 vs acc)))] [1000,1001]:=by
 refine hfx (nt:=85) Tryz.func104 ?_;refine cu 1 rfl fun hvn=>?_;refine va ?_;refine ah (ι:=Nat) (ka 0 (ka 1 (ka 4 (ka 14 (ka 15 kn))))) (kb 1000 (kb 1001 km)) (fun i=>⟨[(16,some (vI i))],[]⟩) (fun i=>i <= ps.length /\ ∀ j,j < i -> pk R vs acc.length (ps.getD j default) = false) (fun i=>ps.length - i) (0) (⟨bre _,c7⟩) kk ?_;rintro i ⟨hi,hI⟩;refine cq ?_;refine cu 14 rfl fun hpn=>?_;refine w_4 ?_;refine hcd (fun h0=>?_) (fun h0=>?_)
 ·
  refine al3 ?_;refine aw rfl rfl (fun r1=>?_) (fun r1=>?_)
  ·
   have h1:=tz1 r1;(iterate 15 refine k9 (gtf r1) ?_);refine w_4 ?_;refine hrr ?_
   have he:=ui (cols:=ca R n) (d:=0) (a97 (ps:=ps) (m:=acc.length) (vs:=vs) (R:=R) (i:=i) bv9 bvy);rw [he];exact ⟨_,_,rfl,bvb,(CoR.refl _),uu⟩
  have h1:=tz2 r1;(iterate 12 refine qy ?_ (hg:=(gff r1)));refine qcx agu (ahz vs (ps.getD i default) bv9) ?_ (hg:=(gff r1))
  refine rq (out:=Out.mk (KK.str = KK.str /\ MK.ok .str (.s (fb vs (ps.getD i default)))) (bp (.raw (.bool (od R (ps.getD i default) vs.length (fb vs (ps.getD i default))))))) rfl rfl rfl (congrArg (fun x=>some (Out.mk (KK.str = KK.str /\ MK.ok .str (.s (fb vs (ps.getD i default)))) (bp x))) aiq) (gff r1) ?_ (hp:=⟨rfl,ane bv9⟩);refine qy ?_ (hg:=(gff r1));refine w_3 ?_;refine au _ rfl (fun r2=>?_) (fun r2=>?_)
  · have h2:=eg (be r1 r2);refine hrr ?_;have he:=ui (cols:=ca R n) (d:=0) (a97 (ps:=ps) (m:=acc.length) (vs:=vs) (R:=R) (i:=i) bv9 bvy);rw [he];exact ⟨_,_,rfl,bvb,(CoR.refl _),uu⟩
  have h2:=ek (be r1 r2);refine w_5 ?_;refine lpz (i + 1) kk ?_;exact ⟨by show i + 1 <= _;omega,bo hI (by first | exact a9a bva bva | exact a9a bva bvl)⟩
 obtain rfl:i = ps.length:=by omega
 have hst:=atr hI;refine j4 ?_;refine hcd (fun h3=>?_) (fun h3=>?_)
 · refine w_8 ?_;refine qcx (wgx Tryz.func159) (c78 vs bv9) ?_;refine m9 0 ?_;refine r9 1 true ?_;refine w_5 ?_;refine hrr ?_;have he:=b1i (cols:=ca R n) hst;rw [he];exact ⟨_,_,rfl,bvb,(CoR.refl _),⟨⟨_,rfl,⟨CoH.refl _,CoH.refl _,CoH.refl _,congrArg (HV.ref 1001) bvd,trivial⟩⟩,⟨_,rfl,c5 rfl (CoP.refl _)⟩,trivial⟩⟩
 exact absurd ((by rw [a1f];omega):(vs.length:Int) = ((ca R n).length:Int)) bva
def blo (R:List Row) (ps:List AS) (n:Nat) (hn:n <= 16) (hp:0 < ps.length) (d:Nat) (IH:∀ (vs:List Val) (acc:List (List Val)),vs.length + d = n -> acc.length <= 1001 -> cz bw0 104 [.one (.ptr 1000 0), .one (.p (vals vs))] [(1000, .box [.p (asl ps), .p (xc (ca R n)), .p (psl 1 (lvC R n) ps), .ref 1001 acc.length]),(1001, .arr true 1 79 acc.length (lf vlC acc))] (.tup []) [(1000, .box [.p (asl ps), .p (xc (ca R n)), .p (psl 1 (lvC R n) ps), .ref 1001 (i9 R ps (ca R n) d vs acc).length]),(1001, .arr true 1 79 (i9 R ps (ca R n) d vs acc).length (lf vlC (i9 R ps (ca R n) d vs acc)))] [1000,1001]) (vs:List Val) (acc:List (List Val)) (hv:vs.length + (d + 1) = n) (ha:acc.length <= 1001):cz bw0 104 [.one (.ptr 1000 0), .one (.p (vals vs))] [(1000, .box [.p (asl ps), .p (xc (ca R n)), .p (psl 1 (lvC R n) ps), .ref 1001 acc.length]),(1001, .arr true 1 79 acc.length (lf vlC acc))] (.tup []) [(1000, .box [.p (asl ps), .p (xc (ca R n)), .p (psl 1 (lvC R n) ps), .ref 1001 (i9 R ps (ca R n) (d + 1) vs acc).length]),(1001, .arr true 1 79 (i9 R ps (ca R n) (d + 1) vs acc).length (lf vlC (i9 R ps (ca R n) (d + 1) vs acc)))] [1000,1001]:=by
 refine hfx (nt:=85) Tryz.func104 ?_;refine cu 1 rfl fun hvn=>?_;refine va ?_;refine ah (ι:=Nat) (ka 0 (ka 1 (ka 4 (ka 14 (ka 15 kn))))) (kb 1000 (kb 1001 km)) (fun i=>⟨[(16,some (vI i))],[]⟩) (fun i=>i <= ps.length /\ ∀ j,j < i -> pk R vs acc.length (ps.getD j default) = false) (fun i=>ps.length - i) (0) (⟨bre _,c7⟩) kk ?_;rintro i ⟨hi,hI⟩;refine cq ?_;refine cu 14 rfl fun hpn=>?_;refine w_4 ?_;refine hcd (fun h0=>?_) (fun h0=>?_)
 ·
  refine al3 ?_;refine aw rfl rfl (fun r1=>?_) (fun r1=>?_)
  ·
   have h1:=tz1 r1;(iterate 15 refine k9 (gtf r1) ?_);refine w_4 ?_;refine hrr ?_
   have he:=ui (cols:=ca R n) (d:=(d + 1)) (a97 (ps:=ps) (m:=acc.length) (vs:=vs) (R:=R) (i:=i) bv9 bvy);rw [he];exact ⟨_,_,rfl,bvb,(CoR.refl _),uu⟩
  have h1:=tz2 r1;(iterate 12 refine qy ?_ (hg:=(gff r1)));refine qcx agu (ahz vs (ps.getD i default) bv9) ?_ (hg:=(gff r1))
  refine rq (out:=Out.mk (KK.str = KK.str /\ MK.ok .str (.s (fb vs (ps.getD i default)))) (bp (.raw (.bool (od R (ps.getD i default) vs.length (fb vs (ps.getD i default))))))) rfl rfl rfl (congrArg (fun x=>some (Out.mk (KK.str = KK.str /\ MK.ok .str (.s (fb vs (ps.getD i default)))) (bp x))) aiq) (gff r1) ?_ (hp:=⟨rfl,ane bv9⟩);refine qy ?_ (hg:=(gff r1));refine w_3 ?_;refine au _ rfl (fun r2=>?_) (fun r2=>?_)
  · have h2:=eg (be r1 r2);refine hrr ?_;have he:=ui (cols:=ca R n) (d:=(d + 1)) (a97 (ps:=ps) (m:=acc.length) (vs:=vs) (R:=R) (i:=i) bv9 bvy);rw [he];exact ⟨_,_,rfl,bvb,(CoR.refl _),uu⟩
  have h2:=ek (be r1 r2);refine w_5 ?_;refine lpz (i + 1) kk ?_;exact ⟨by show i + 1 <= _;omega,bo hI (by first | exact a9a bva bva | exact a9a bva bvl)⟩
 obtain rfl:i = ps.length:=by omega
 have hst:=atr hI;refine j4 ?_;refine hcd (fun h3=>?_) (fun h3=>?_)
 · have hcl:=a1f (R:=R) (n:=n);exact absurd (h3) bv9
 refine w_8 ?_;refine rq rfl rfl rfl rfl rfl ?_ (hp:=⟨rfl,by omega,by rw [a1f];omega⟩);refine w_5 ?_;refine br (ka 0 (ka 1 (ka 4 (ka 69 (ka 70 kn))))) km (fun i=>⟨[(71,some (vI i))],[(1000,some (.box [.p (asl ps), .p (xc (ca R n)), .p (psl 1 (lvC R n) ps), .ref 1001 (a08 R ps (ca R n) d vs acc i).length])),(1001,some (.arr true 1 79 (a08 R ps (ca R n) d vs acc i).length (lf vlC (a08 R ps (ca R n) d vs acc i))))]⟩) (((ca R n).getD vs.length default).length) kk ?_;rintro i hi;refine cq ?_;refine cu 69 rfl fun hcn=>?_;simp only [ty] at hcn;refine w_4 ?_;refine hcd (fun h4=>?_) (fun h4=>?_)
 · refine w_7 ?_;refine m9 0 ?_;refine w_9 ?_;refine m9 1 ?_;refine r9 2 true ?_;refine jc rfl rfl rfl rfl rfl rfl (wgx Tryz.func104) (((IH (vs ++ [(((ca R n).getD vs.length default).getD i default)]) (a08 R ps (ca R n) d vs acc i) (by rw [brh,bst];omega) (b5g hp ha)).eat1 (id:=0) (n:=(vs ++ [(((ca R n).getD vs.length default).getD i default)]).length) (s:=3) (wr:=true) (e:=84) (F:=lf Val.c (vs ++ [(((ca R n).getD vs.length default).getD i default)])) (args':=[.one (.ptr 1000 0), .one (.ref 0 (vs ++ [(((ca R n).getD vs.length default).getD i default)]).length)]) ⟨.inl rfl, .inr ⟨rfl,rfl⟩,trivial⟩ rfl (by intro k hk;simp at hk;omega)).swap 0 2) (⟨rfl,congrArg (HV.ref 2) (by rw [brh];rfl),trivial⟩) ⟨⟨_,rfl,w5 (l:=vs) (x:=(((ca R n).getD vs.length default).getD i default)) rfl (agh (CoP.refl _) (CoP.refl _) (CoP.refl _))⟩,uu⟩ rfl rfl ?_;refine w_6 ?_;exact lpx (i + 1) ⟨tt,⟨⟨_,rfl,(by rw [aik bv9];exact CoO.refl _)⟩,⟨_,rfl,(by rw [aik bv9];exact CoO.refl _)⟩,trivial⟩⟩
 obtain rfl:i = ((ca R n).getD vs.length default).length:=by omega
 refine d7 ?_;refine ⟨.inl rfl, ?_⟩;have he:=azl (cols:=ca R n) (d:=d) hst;rw [he];exact ⟨_,_,rfl,bvb,(CoR.refl _),uu⟩
def bjs (R:List Row) (ps:List AS) (n:Nat) (hn:n <= 16) (hp:0 < ps.length):∀ (d:Nat) (vs:List Val) (acc:List (List Val)),vs.length + d = n -> acc.length <= 1001 -> cz bw0 104 [.one (.ptr 1000 0), .one (.p (vals vs))] [(1000, .box [.p (asl ps), .p (xc (ca R n)), .p (psl 1 (lvC R n) ps), .ref 1001 acc.length]),(1001, .arr true 1 79 acc.length (lf vlC acc))] (.tup []) [(1000, .box [.p (asl ps), .p (xc (ca R n)), .p (psl 1 (lvC R n) ps), .ref 1001 (i9 R ps (ca R n) d vs acc).length]),(1001, .arr true 1 79 (i9 R ps (ca R n) d vs acc).length (lf vlC (i9 R ps (ca R n) d vs acc)))] [1000,1001]
 | 0,vs,acc,hv,ha=>bm5 R ps n hn hp vs acc hv ha
 | d + 1,vs,acc,hv,ha=>blo R ps n hn hp d (fun vs acc hv ha=>bjs R ps n hn hp d vs acc hv ha) vs acc hv ha
end
end Go.Hx

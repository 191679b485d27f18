/- A part of the proof: Jw3. -/
import Derived.Test.YteklilhbjjofbaaGreatDoorLb33
set_option linter.all false
set_option maxRecDepth 100000
set_option maxHeartbeats 1000000
namespace Go.Hx
section
open Go.Proofs
def b5z {p:Prop} (h:p:=by first | exact a0l b5d | exact nb b5d | exact nb b5h):p:=h
def ax8 (R:List Row) (ps:List AS) (n:Nat) (hn:n <= 16) (hp:0 < ps.length) (vs:List Val) (acc:List (List Val)) (hv:vs.length = n) (ha:acc.length <= 1001):c4 b62 66 [.one (.ptr 1000 0), .one (.p (vals vs))] [(1000, .box [.p (asl ps), .p (pl (bm R n)), .p (psl 1 (lvC R n) ps), .ref 1001 acc.length]),(1001, .arr true 1 110 acc.length (lf vlC acc))] (.tup []) [(1000, .box [.p (asl ps), .p (pl (bm R n)), .p (psl 1 (lvC R n) ps), .ref 1001 (fb R ps (bm R n) 0 vs acc).length]),(1001, .arr true 1 110 (fb R ps (bm R n) 0 vs acc).length (lf vlC (fb R ps (bm R n) 0 vs acc)))] [1000,1001]:=by
 refine hfx (nt:=85) Tryz.func66 ?_;refine ca 1 rfl fun hvn=>?_;refine za ?_;refine am (ι:=Nat) (ka 0 (ka 1 (ka 4 (ka 14 (ka 15 kn))))) (kb 1000 (kb 1001 km)) (fun i=>⟨[(16,some (vI i))],[]⟩) (fun i=>i <= ps.length /\ ∀ j,j < i -> ln R vs acc.length (ps.getD j default) = false) (fun i=>ps.length - i) (0) (⟨b2b _,bc⟩) kk ?_;rintro i ⟨hi,hI⟩;refine c7 ?_;refine ca 14 rfl fun hpn=>?_;refine w_4 ?_;refine hcd (fun h0=>?_) (fun h0=>?_)
 ·
  refine ah5 ?_;refine ag rfl rfl (fun r1=>?_) (fun r1=>?_)
  ·
   have h1:=tz1 r1;(iterate 15 refine k9 (gtf r1) ?_);refine w_4 ?_;refine hrr ?_
   have he:=uv (cols:=bm R n) (d:=0) (a0o (ps:=ps) (m:=acc.length) (vs:=vs) (R:=R) (i:=i) b5c b5z);rw [he];exact ⟨_,_,rfl,b5e,(CoR.refl _),uu⟩
  have h1:=tz2 r1;(iterate 12 refine qy ?_ (hg:=(gff r1)));refine qcx aam (a5p vs (ps.getD i default) b5c) ?_ (hg:=(gff r1))
  refine rq (out:=Out.mk (KK.str = KK.str /\ MK.ok .str (.s (fw vs (ps.getD i default)))) (b5 (.raw (.bool (kz R (ps.getD i default) vs.length (fw vs (ps.getD i default))))))) rfl rfl rfl (congrArg (fun x=>some (Out.mk (KK.str = KK.str /\ MK.ok .str (.s (fw vs (ps.getD i default)))) (b5 x))) a7i) (gff r1) ?_ (hp:=⟨rfl,abm b5c⟩);refine qy ?_ (hg:=(gff r1));refine w_3 ?_;refine al _ rfl (fun r2=>?_) (fun r2=>?_)
  · have h2:=dq (af r1 r2);refine hrr ?_;have he:=uv (cols:=bm R n) (d:=0) (a0o (ps:=ps) (m:=acc.length) (vs:=vs) (R:=R) (i:=i) b5c b5z);rw [he];exact ⟨_,_,rfl,b5e,(CoR.refl _),uu⟩
  have h2:=dt (af r1 r2);refine w_5 ?_;refine lpz (i + 1) kk ?_;exact ⟨by show i + 1 <= _;omega,az hI (by first | exact a0t b5d b5d | exact a0t b5d b5h)⟩
 obtain rfl:i = ps.length:=by omega
 have hst:=afe hI;refine pe ?_;refine hcd (fun h3=>?_) (fun h3=>?_)
 · refine w_8 ?_;refine qcx (wgx Tryz.func107) (c78 vs b5c) ?_;refine m9 0 ?_;refine r9 1 true ?_;refine w_5 ?_;refine hrr ?_;have he:=aka (cols:=bm R n) hst;rw [he];exact ⟨_,_,rfl,b5e,(CoR.refl _),⟨⟨_,rfl,⟨CoH.refl _,CoH.refl _,CoH.refl _,congrArg (HV.ref 1001) b5f,trivial⟩⟩,⟨_,rfl,ji rfl (CoP.refl _)⟩,trivial⟩⟩
 exact absurd ((by rw [uf];omega):(vs.length:Int) = ((bm R n).length:Int)) b5d
def axd (R:List Row) (ps:List AS) (n:Nat) (hn:n <= 16) (hp:0 < ps.length) (d:Nat) (IH:∀ (vs:List Val) (acc:List (List Val)),vs.length + d = n -> acc.length <= 1001 -> c4 b62 66 [.one (.ptr 1000 0), .one (.p (vals vs))] [(1000, .box [.p (asl ps), .p (pl (bm R n)), .p (psl 1 (lvC R n) ps), .ref 1001 acc.length]),(1001, .arr true 1 110 acc.length (lf vlC acc))] (.tup []) [(1000, .box [.p (asl ps), .p (pl (bm R n)), .p (psl 1 (lvC R n) ps), .ref 1001 (fb R ps (bm R n) d vs acc).length]),(1001, .arr true 1 110 (fb R ps (bm R n) d vs acc).length (lf vlC (fb R ps (bm R n) d vs acc)))] [1000,1001]) (vs:List Val) (acc:List (List Val)) (hv:vs.length + (d + 1) = n) (ha:acc.length <= 1001):c4 b62 66 [.one (.ptr 1000 0), .one (.p (vals vs))] [(1000, .box [.p (asl ps), .p (pl (bm R n)), .p (psl 1 (lvC R n) ps), .ref 1001 acc.length]),(1001, .arr true 1 110 acc.length (lf vlC acc))] (.tup []) [(1000, .box [.p (asl ps), .p (pl (bm R n)), .p (psl 1 (lvC R n) ps), .ref 1001 (fb R ps (bm R n) (d + 1) vs acc).length]),(1001, .arr true 1 110 (fb R ps (bm R n) (d + 1) vs acc).length (lf vlC (fb R ps (bm R n) (d + 1) vs acc)))] [1000,1001]:=by
 refine hfx (nt:=85) Tryz.func66 ?_;refine ca 1 rfl fun hvn=>?_;refine za ?_;refine am (ι:=Nat) (ka 0 (ka 1 (ka 4 (ka 14 (ka 15 kn))))) (kb 1000 (kb 1001 km)) (fun i=>⟨[(16,some (vI i))],[]⟩) (fun i=>i <= ps.length /\ ∀ j,j < i -> ln R vs acc.length (ps.getD j default) = false) (fun i=>ps.length - i) (0) (⟨b2b _,bc⟩) kk ?_;rintro i ⟨hi,hI⟩;refine c7 ?_;refine ca 14 rfl fun hpn=>?_;refine w_4 ?_;refine hcd (fun h0=>?_) (fun h0=>?_)
 ·
  refine ah5 ?_;refine ag rfl rfl (fun r1=>?_) (fun r1=>?_)
  ·
   have h1:=tz1 r1;(iterate 15 refine k9 (gtf r1) ?_);refine w_4 ?_;refine hrr ?_
   have he:=uv (cols:=bm R n) (d:=(d + 1)) (a0o (ps:=ps) (m:=acc.length) (vs:=vs) (R:=R) (i:=i) b5c b5z);rw [he];exact ⟨_,_,rfl,b5e,(CoR.refl _),uu⟩
  have h1:=tz2 r1;(iterate 12 refine qy ?_ (hg:=(gff r1)));refine qcx aam (a5p vs (ps.getD i default) b5c) ?_ (hg:=(gff r1))
  refine rq (out:=Out.mk (KK.str = KK.str /\ MK.ok .str (.s (fw vs (ps.getD i default)))) (b5 (.raw (.bool (kz R (ps.getD i default) vs.length (fw vs (ps.getD i default))))))) rfl rfl rfl (congrArg (fun x=>some (Out.mk (KK.str = KK.str /\ MK.ok .str (.s (fw vs (ps.getD i default)))) (b5 x))) a7i) (gff r1) ?_ (hp:=⟨rfl,abm b5c⟩);refine qy ?_ (hg:=(gff r1));refine w_3 ?_;refine al _ rfl (fun r2=>?_) (fun r2=>?_)
  · have h2:=dq (af r1 r2);refine hrr ?_;have he:=uv (cols:=bm R n) (d:=(d + 1)) (a0o (ps:=ps) (m:=acc.length) (vs:=vs) (R:=R) (i:=i) b5c b5z);rw [he];exact ⟨_,_,rfl,b5e,(CoR.refl _),uu⟩
  have h2:=dt (af r1 r2);refine w_5 ?_;refine lpz (i + 1) kk ?_;exact ⟨by show i + 1 <= _;omega,az hI (by first | exact a0t b5d b5d | exact a0t b5d b5h)⟩
 obtain rfl:i = ps.length:=by omega
 have hst:=afe hI;refine pe ?_;refine hcd (fun h3=>?_) (fun h3=>?_)
 · have hcl:=uf (R:=R) (n:=n);exact absurd (h3) b5c
 refine w_8 ?_;refine rq rfl rfl rfl rfl rfl ?_ (hp:=⟨rfl,by omega,by rw [uf];omega⟩);refine w_5 ?_;refine ce (ka 0 (ka 1 (ka 4 (ka 69 (ka 70 kn))))) km (fun i=>⟨[(71,some (vI i))],[(1000,some (.box [.p (asl ps), .p (pl (bm R n)), .p (psl 1 (lvC R n) ps), .ref 1001 (tw R ps (bm R n) d vs acc i).length])),(1001,some (.arr true 1 110 (tw R ps (bm R n) d vs acc i).length (lf vlC (tw R ps (bm R n) d vs acc i))))]⟩) (((bm R n).getD vs.length default).length) kk ?_;rintro i hi;refine c7 ?_;refine ca 69 rfl fun hcn=>?_;simp only [ty] at hcn;refine w_4 ?_;refine hcd (fun h4=>?_) (fun h4=>?_)
 · refine w_7 ?_;refine m9 0 ?_;refine w_9 ?_;refine m9 1 ?_;refine r9 2 true ?_;refine fl rfl rfl rfl rfl rfl rfl (wgx Tryz.func66) (((IH (vs ++ [(((bm R n).getD vs.length default).getD i default)]) (tw R ps (bm R n) d vs acc i) (by rw [b2s,b46];omega) (ame hp ha)).eat1 (id:=0) (n:=(vs ++ [(((bm R n).getD vs.length default).getD i default)]).length) (s:=3) (wr:=true) (e:=114) (F:=lf Val.c (vs ++ [(((bm R n).getD vs.length default).getD i default)])) (args':=[.one (.ptr 1000 0), .one (.ref 0 (vs ++ [(((bm R n).getD vs.length default).getD i default)]).length)]) ⟨.inl rfl, .inr ⟨rfl,rfl⟩,trivial⟩ rfl (by intro k hk;simp at hk;omega)).swap 0 2) (⟨rfl,congrArg (HV.ref 2) (by rw [b2s];rfl),trivial⟩) ⟨⟨_,rfl,vv (l:=vs) (x:=(((bm R n).getD vs.length default).getD i default)) rfl (aa7 (CoP.refl _) (CoP.refl _) (CoP.refl _))⟩,uu⟩ rfl rfl ?_;refine w_6 ?_;exact lpx (i + 1) ⟨tt,⟨⟨_,rfl,(by rw [a8d b5c];exact CoO.refl _)⟩,⟨_,rfl,(by rw [a8d b5c];exact CoO.refl _)⟩,trivial⟩⟩
 obtain rfl:i = ((bm R n).getD vs.length default).length:=by omega
 refine cu ?_;refine ⟨.inl rfl, ?_⟩;have he:=akx (cols:=bm R n) (d:=d) hst;rw [he];exact ⟨_,_,rfl,b5e,(CoR.refl _),uu⟩
def avw (R:List Row) (ps:List AS) (n:Nat) (hn:n <= 16) (hp:0 < ps.length):∀ (d:Nat) (vs:List Val) (acc:List (List Val)),vs.length + d = n -> acc.length <= 1001 -> c4 b62 66 [.one (.ptr 1000 0), .one (.p (vals vs))] [(1000, .box [.p (asl ps), .p (pl (bm R n)), .p (psl 1 (lvC R n) ps), .ref 1001 acc.length]),(1001, .arr true 1 110 acc.length (lf vlC acc))] (.tup []) [(1000, .box [.p (asl ps), .p (pl (bm R n)), .p (psl 1 (lvC R n) ps), .ref 1001 (fb R ps (bm R n) d vs acc).length]),(1001, .arr true 1 110 (fb R ps (bm R n) d vs acc).length (lf vlC (fb R ps (bm R n) d vs acc)))] [1000,1001]
 | 0,vs,acc,hv,ha=>ax8 R ps n hn hp vs acc hv ha
 | d + 1,vs,acc,hv,ha=>axd R ps n hn hp d (fun vs acc hv ha=>avw R ps n hn hp d vs acc hv ha) vs acc hv ha
end
end Go.Hx

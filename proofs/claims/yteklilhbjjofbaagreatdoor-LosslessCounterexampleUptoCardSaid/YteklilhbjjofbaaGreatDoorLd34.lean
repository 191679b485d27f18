/- A part of the proof: Jw3. -/
import Derived.Test.YteklilhbjjofbaaGreatDoorLd33
set_option linter.all false
set_option maxRecDepth 100000
set_option maxHeartbeats 1000000
namespace Go.Hx
section
open Go.Proofs
def b95 {p:Prop} (h:p:=by first | exact a23 b8j | exact p6 b8j | exact p6 b8p):p:=h
def b06 (R:List Row) (ps:List AS) (n:Nat) (hn:n <= 16) (hp:0 < ps.length) (vs:List Val) (acc:List (List Val)) (hv:vs.length = n) (ha:acc.length <= 1001):cq b98 66 [.one (.ptr 1000 0), .one (.p (vals vs))] [(1000, .box [.p (asl ps), .p (rj (be R n)), .p (psl 1 (lvC R n) ps), .ref 1001 acc.length]),(1001, .arr true 1 110 acc.length (lf vlC acc))] (.tup []) [(1000, .box [.p (asl ps), .p (rj (be R n)), .p (psl 1 (lvC R n) ps), .ref 1001 (f0 R ps (be R n) 0 vs acc).length]),(1001, .arr true 1 110 (f0 R ps (be R n) 0 vs acc).length (lf vlC (f0 R ps (be R n) 0 vs acc)))] [1000,1001]:=by
 refine hfx (nt:=85) Tryz.func66 ?_;refine bv 1 rfl fun hvn=>?_;refine v7 ?_;refine af (ι:=Nat) (ka 0 (ka 1 (ka 4 (ka 14 (ka 15 kn))))) (kb 1000 (kb 1001 km)) (fun i=>⟨[(16,some (vI i))],[]⟩) (fun i=>i <= ps.length /\ ∀ j,j < i -> lj R vs acc.length (ps.getD j default) = false) (fun i=>ps.length - i) (0) (⟨b5h _,ar⟩) kk ?_;rintro i ⟨hi,hI⟩;refine cu ?_;refine bv 14 rfl fun hpn=>?_;refine w_4 ?_;refine hcd (fun h0=>?_) (fun h0=>?_)
 ·
  refine ap8 ?_;refine aa rfl rfl (fun r1=>?_) (fun r1=>?_)
  ·
   have h1:=tz1 r1;(iterate 15 refine k9 (gtf r1) ?_);refine w_4 ?_;refine hrr ?_
   have he:=oq (cols:=be R n) (d:=0) (a2a (ps:=ps) (m:=acc.length) (vs:=vs) (R:=R) (i:=i) b8i b95);rw [he];exact ⟨_,_,rfl,b8k,(CoR.refl _),uu⟩
  have h1:=tz2 r1;(iterate 12 refine qy ?_ (hg:=(gff r1)));refine qcx aey (a7i vs (ps.getD i default) b8i) ?_ (hg:=(gff r1))
  refine rq (out:=Out.mk (KK.str = KK.str /\ MK.ok .str (.s (fp vs (ps.getD i default)))) (b4 (.raw (.bool (ky R (ps.getD i default) vs.length (fp vs (ps.getD i default))))))) rfl rfl rfl (congrArg (fun x=>some (Out.mk (KK.str = KK.str /\ MK.ok .str (.s (fp vs (ps.getD i default)))) (b4 x))) a96) (gff r1) ?_ (hp:=⟨rfl,adb b8i⟩);refine qy ?_ (hg:=(gff r1));refine w_3 ?_;refine ag _ rfl (fun r2=>?_) (fun r2=>?_)
  · have h2:=d6 (ab r1 r2);refine hrr ?_;have he:=oq (cols:=be R n) (d:=0) (a2a (ps:=ps) (m:=acc.length) (vs:=vs) (R:=R) (i:=i) b8i b95);rw [he];exact ⟨_,_,rfl,b8k,(CoR.refl _),uu⟩
  have h2:=d5 (ab r1 r2);refine w_5 ?_;refine lpz (i + 1) kk ?_;exact ⟨by show i + 1 <= _;omega,aj hI (by first | exact a29 b8j b8j | exact a29 b8j b8p)⟩
 obtain rfl:i = ps.length:=by omega
 have hst:=ags hI;refine o4 ?_;refine hcd (fun h3=>?_) (fun h3=>?_)
 · refine w_8 ?_;refine qcx (wgx Tryz.func107) (c78 vs b8i) ?_;refine m9 0 ?_;refine r9 1 true ?_;refine w_5 ?_;refine hrr ?_;have he:=akt (cols:=be R n) hst;rw [he];exact ⟨_,_,rfl,b8k,(CoR.refl _),⟨⟨_,rfl,⟨CoH.refl _,CoH.refl _,CoH.refl _,congrArg (HV.ref 1001) b8l,trivial⟩⟩,⟨_,rfl,kz rfl (CoP.refl _)⟩,trivial⟩⟩
 exact absurd ((by rw [vt];omega):(vs.length:Int) = ((be R n).length:Int)) b8j
def b0i (R:List Row) (ps:List AS) (n:Nat) (hn:n <= 16) (hp:0 < ps.length) (d:Nat) (IH:∀ (vs:List Val) (acc:List (List Val)),vs.length + d = n -> acc.length <= 1001 -> cq b98 66 [.one (.ptr 1000 0), .one (.p (vals vs))] [(1000, .box [.p (asl ps), .p (rj (be R n)), .p (psl 1 (lvC R n) ps), .ref 1001 acc.length]),(1001, .arr true 1 110 acc.length (lf vlC acc))] (.tup []) [(1000, .box [.p (asl ps), .p (rj (be R n)), .p (psl 1 (lvC R n) ps), .ref 1001 (f0 R ps (be R n) d vs acc).length]),(1001, .arr true 1 110 (f0 R ps (be R n) d vs acc).length (lf vlC (f0 R ps (be R n) d vs acc)))] [1000,1001]) (vs:List Val) (acc:List (List Val)) (hv:vs.length + (d + 1) = n) (ha:acc.length <= 1001):cq b98 66 [.one (.ptr 1000 0), .one (.p (vals vs))] [(1000, .box [.p (asl ps), .p (rj (be R n)), .p (psl 1 (lvC R n) ps), .ref 1001 acc.length]),(1001, .arr true 1 110 acc.length (lf vlC acc))] (.tup []) [(1000, .box [.p (asl ps), .p (rj (be R n)), .p (psl 1 (lvC R n) ps), .ref 1001 (f0 R ps (be R n) (d + 1) vs acc).length]),(1001, .arr true 1 110 (f0 R ps (be R n) (d + 1) vs acc).length (lf vlC (f0 R ps (be R n) (d + 1) vs acc)))] [1000,1001]:=by
 refine hfx (nt:=85) Tryz.func66 ?_;refine bv 1 rfl fun hvn=>?_;refine v7 ?_;refine af (ι:=Nat) (ka 0 (ka 1 (ka 4 (ka 14 (ka 15 kn))))) (kb 1000 (kb 1001 km)) (fun i=>⟨[(16,some (vI i))],[]⟩) (fun i=>i <= ps.length /\ ∀ j,j < i -> lj R vs acc.length (ps.getD j default) = false) (fun i=>ps.length - i) (0) (⟨b5h _,ar⟩) kk ?_;rintro i ⟨hi,hI⟩;refine cu ?_;refine bv 14 rfl fun hpn=>?_;refine w_4 ?_;refine hcd (fun h0=>?_) (fun h0=>?_)
 ·
  refine ap8 ?_;refine aa rfl rfl (fun r1=>?_) (fun r1=>?_)
  ·
   have h1:=tz1 r1;(iterate 15 refine k9 (gtf r1) ?_);refine w_4 ?_;refine hrr ?_
   have he:=oq (cols:=be R n) (d:=(d + 1)) (a2a (ps:=ps) (m:=acc.length) (vs:=vs) (R:=R) (i:=i) b8i b95);rw [he];exact ⟨_,_,rfl,b8k,(CoR.refl _),uu⟩
  have h1:=tz2 r1;(iterate 12 refine qy ?_ (hg:=(gff r1)));refine qcx aey (a7i vs (ps.getD i default) b8i) ?_ (hg:=(gff r1))
  refine rq (out:=Out.mk (KK.str = KK.str /\ MK.ok .str (.s (fp vs (ps.getD i default)))) (b4 (.raw (.bool (ky R (ps.getD i default) vs.length (fp vs (ps.getD i default))))))) rfl rfl rfl (congrArg (fun x=>some (Out.mk (KK.str = KK.str /\ MK.ok .str (.s (fp vs (ps.getD i default)))) (b4 x))) a96) (gff r1) ?_ (hp:=⟨rfl,adb b8i⟩);refine qy ?_ (hg:=(gff r1));refine w_3 ?_;refine ag _ rfl (fun r2=>?_) (fun r2=>?_)
  · have h2:=d6 (ab r1 r2);refine hrr ?_;have he:=oq (cols:=be R n) (d:=(d + 1)) (a2a (ps:=ps) (m:=acc.length) (vs:=vs) (R:=R) (i:=i) b8i b95);rw [he];exact ⟨_,_,rfl,b8k,(CoR.refl _),uu⟩
  have h2:=d5 (ab r1 r2);refine w_5 ?_;refine lpz (i + 1) kk ?_;exact ⟨by show i + 1 <= _;omega,aj hI (by first | exact a29 b8j b8j | exact a29 b8j b8p)⟩
 obtain rfl:i = ps.length:=by omega
 have hst:=ags hI;refine o4 ?_;refine hcd (fun h3=>?_) (fun h3=>?_)
 · have hcl:=vt (R:=R) (n:=n);exact absurd (h3) b8i
 refine w_8 ?_;refine rq rfl rfl rfl rfl rfl ?_ (hp:=⟨rfl,by omega,by rw [vt];omega⟩);refine w_5 ?_;refine cj (ka 0 (ka 1 (ka 4 (ka 69 (ka 70 kn))))) km (fun i=>⟨[(71,some (vI i))],[(1000,some (.box [.p (asl ps), .p (rj (be R n)), .p (psl 1 (lvC R n) ps), .ref 1001 (uo R ps (be R n) d vs acc i).length])),(1001,some (.arr true 1 110 (uo R ps (be R n) d vs acc i).length (lf vlC (uo R ps (be R n) d vs acc i))))]⟩) (((be R n).getD vs.length default).length) kk ?_;rintro i hi;refine cu ?_;refine bv 69 rfl fun hcn=>?_;simp only [ty] at hcn;refine w_4 ?_;refine hcd (fun h4=>?_) (fun h4=>?_)
 · refine w_7 ?_;refine m9 0 ?_;refine w_9 ?_;refine m9 1 ?_;refine r9 2 true ?_;refine ji rfl rfl rfl rfl rfl rfl (wgx Tryz.func66) (((IH (vs ++ [(((be R n).getD vs.length default).getD i default)]) (uo R ps (be R n) d vs acc i) (by rw [b5x,b6w];omega) (apk hp ha)).eat1 (id:=0) (n:=(vs ++ [(((be R n).getD vs.length default).getD i default)]).length) (s:=3) (wr:=true) (e:=114) (F:=lf Val.c (vs ++ [(((be R n).getD vs.length default).getD i default)])) (args':=[.one (.ptr 1000 0), .one (.ref 0 (vs ++ [(((be R n).getD vs.length default).getD i default)]).length)]) ⟨.inl rfl, .inr ⟨rfl,rfl⟩,trivial⟩ rfl (by intro k hk;simp at hk;omega)).swap 0 2) (⟨rfl,congrArg (HV.ref 2) (by rw [b5x];rfl),trivial⟩) ⟨⟨_,rfl,qp (l:=vs) (x:=(((be R n).getD vs.length default).getD i default)) rfl (a0n (CoP.refl _) (CoP.refl _) (CoP.refl _))⟩,uu⟩ rfl rfl ?_;refine w_6 ?_;exact lpx (i + 1) ⟨tt,⟨⟨_,rfl,(by rw [a9p b8i];exact CoO.refl _)⟩,⟨_,rfl,(by rw [a9p b8i];exact CoO.refl _)⟩,trivial⟩⟩
 obtain rfl:i = ((be R n).getD vs.length default).length:=by omega
 refine br ?_;refine ⟨.inl rfl, ?_⟩;have he:=als (cols:=be R n) (d:=d) hst;rw [he];exact ⟨_,_,rfl,b8k,(CoR.refl _),uu⟩
def avt (R:List Row) (ps:List AS) (n:Nat) (hn:n <= 16) (hp:0 < ps.length):∀ (d:Nat) (vs:List Val) (acc:List (List Val)),vs.length + d = n -> acc.length <= 1001 -> cq b98 66 [.one (.ptr 1000 0), .one (.p (vals vs))] [(1000, .box [.p (asl ps), .p (rj (be R n)), .p (psl 1 (lvC R n) ps), .ref 1001 acc.length]),(1001, .arr true 1 110 acc.length (lf vlC acc))] (.tup []) [(1000, .box [.p (asl ps), .p (rj (be R n)), .p (psl 1 (lvC R n) ps), .ref 1001 (f0 R ps (be R n) d vs acc).length]),(1001, .arr true 1 110 (f0 R ps (be R n) d vs acc).length (lf vlC (f0 R ps (be R n) d vs acc)))] [1000,1001]
 | 0,vs,acc,hv,ha=>b06 R ps n hn hp vs acc hv ha
 | d + 1,vs,acc,hv,ha=>b0i R ps n hn hp d (fun vs acc hv ha=>avt R ps n hn hp d vs acc hv ha) vs acc hv ha
end
end Go.Hx

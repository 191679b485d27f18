/- A part of the proof: W9 W10 Sp5 W11 W12 W13. -/
import Derived.Test.YtdcdbghdgjlhhaaGreatOx19
set_option linter.all false
set_option maxRecDepth 100000
set_option maxHeartbeats 1000000
namespace Go.Hx
section
open Go.Proofs
theorem a4p:am Tryz.prog 74:=wgx Tryz.func74
theorem c74 (t:Tbl) (id:Int):ay Tryz.prog 74 [t.pc,pI id] (bu [(qd t id).pc,pI (d4 t id)]):=by
 refine av (nt:=38) a8 Tryz.func74 rfl rfl l9 ?_;refine sx7 ?_;refine m9 0 ?_;refine m9 1 ?_;refine w_6 ?_;refine qcx a1s (c82 _) ?_;refine w_7 ?_;refine a7 _ rfl (fun r0=>?_) (fun r0=>?_)
 ·
  have h0:=r0
  have h0:=aa (b7 h0)
  try simp only [ty] at h0
  refine w_8 ?_;refine ⟨.inr rfl, ?_⟩
  have he:d4 t id = cz t:=by unfold d4;rw [if_pos (by assumption)]
  rw [wn he (by first | assumption | omega | decide)]
  exact f9 rfl rfl (⟨CoC.agg ⟨CoP.refl _,ar,ar,trivial⟩,cci he.symm,trivial⟩)
 have h0:=r0
 have h0:=ae (b8 h0)
 try simp only [ty] at h0
 have hT:=ey.1 h0
 have hok:=hT.ok
 refine w_5 ?_;refine qcx sb (c62 _ _) ?_;refine gk ?_;refine a7 _ rfl (fun r1=>?_) (fun r1=>?_)
 ·
  have h1:=r1
  have h1:=b7 h1
  have hfd:=aa h1
  refine w_7 ?_;refine ⟨.inr rfl, ?_⟩
  have he:d4 t id = 4:=by unfold d4;rw [if_neg (by omega),if_neg (by omega)]
  rw [wn he (by first | assumption | omega | decide)]
  exact f9 rfl rfl (⟨CoC.agg ⟨CoP.refl _,ar,ar,trivial⟩,cci he.symm,trivial⟩)
 have h1:=r1
 have h1:=b8 h1
 have hfd:=ae h1
 have hix:=il hfd
 refine w_2 ?_
 have he:d4 t id = 0:=by unfold d4;rw [if_neg (by omega),if_pos (by assumption)]
 have hnr:=hT.nr
 refine ap (E:=au) a8 ag [0,1,2,3,4,5,6,7,8,9,10,11,12,13,14,15] ?_;refine qy ?_;refine m9 2 ?_;refine w_4 ?_;refine ra 3 true rfl rfl rfl rfl rfl rfl ?_;refine w_5 ?_
 refine ra 4 true rfl rfl rfl rfl rfl rfl ?_
 refine al rfl rfl rfl rfl rfl rfl a6a (ay.eat (hcs:=[t.pc.toH, .one (.ref 2 (t.rows.take (max (aj t.rows id) 0).toNat ++ t.rows.drop (max (aj t.rows id) 0 + 1).toNat).length)]) (o1:=[(2, .arr true 2 45 (t.rows.take (max (aj t.rows id) 0).toNat ++ t.rows.drop (max (aj t.rows id) 0 + 1).toNat).length (lf Row.c (t.rows.take (max (aj t.rows id) 0).toNat ++ t.rows.drop (max (aj t.rows id) 0 + 1).toNat)))]) (c84 t (t.rows.take (max (aj t.rows id) 0).toNat ++ t.rows.drop (max (aj t.rows id) 0 + 1).toNat) hok.1 (by simp;omega) (fun j hj=>(hok.2.2:k7 t.rows).sub (fun x hx=>(List.mem_append.1 hx).elim (fun h=>List.mem_of_mem_take h) (fun h=>List.mem_of_mem_drop h)) j hj)) rfl (by (repeat' apply And.intro) <;> first | trivial | rfl) (CoL.refl _)) (⟨j3.refl _,congrArg (HV.ref 2) (by show 0 + (max (aj t.rows id) 0).toNat + (t.rows.length - (max (aj t.rows id) 0 + 1).toNat) = _;simp;omega),trivial⟩) ⟨⟨_,rfl,agp (l:=t.rows) (a:=(max (aj t.rows id) 0).toNat) (b:=(max (aj t.rows id) 0 + 1).toNat) (by omega)⟩,trivial⟩ rfl rfl ?_
 refine w_3 ?_;refine ⟨by kernel_rfl, ?_⟩;refine ej ?_;refine ⟨.inr rfl, ?_⟩
 have hL:(t.rows.take (max (aj t.rows id) 0).toNat ++ t.rows.drop (max (aj t.rows id) 0 + 1).toNat) = t.rows.eraseIdx (aj t.rows id).toNat:=by rw [← a6l,show (max (aj t.rows id) 0).toNat = (aj t.rows id).toNat from by omega,show (max (aj t.rows id) 0 + 1).toNat = (aj t.rows id).toNat + 1 from by omega]
 rw [v6 he,← hL]
 exact f9 rfl rfl (⟨CoC.refl _,cci he.symm,trivial⟩)
theorem a1y:am Tryz.prog 63:=wgx Tryz.func63
theorem c63 (t:Tbl) (id attr:Int) (v:Val):ay Tryz.prog 63 [t.pc, .agg [.raw (.int .i64 id), .raw (.int .i64 attr)],v.pc] (bu [(chT t id attr v).pc,pI (cn t id attr v)]):=by
 refine av (nt:=59) a8 Tryz.func63 rfl rfl l9 ?_;refine sx7 ?_;refine m9 0 ?_;refine m9 1 ?_;refine m9 2 ?_;refine m9 3 ?_;refine w_6 ?_;refine qcx a1s (c82 _) ?_;refine w_7 ?_
 refine a7 _ rfl (fun r0=>?_) (fun r0=>?_)
 ·
  have h0:=r0
  have h0:=aa (b7 h0)
  try simp only [ty] at h0
  refine w_8 ?_;refine ⟨.inr rfl, ?_⟩
  have he:cn t id attr v = cz t:=by unfold cn;rw [if_pos (by assumption)]
  rw [kf he (by first | assumption | omega | decide)]
  exact f9 rfl rfl (⟨CoC.agg ⟨CoP.refl _,ar,ar,trivial⟩,cci he.symm,trivial⟩)
 have h0:=r0
 have h0:=ae (b8 h0)
 try simp only [ty] at h0
 have hT:=ey.1 h0
 have hok:=hT.ok
 refine w_6 ?_;refine qcx sb (c62 _ _) ?_;refine gk ?_;refine a7 _ rfl (fun r1=>?_) (fun r1=>?_)
 ·
  have h1:=r1
  have h1:=b7 h1
  have hfd:=aa h1
  refine w_7 ?_;refine ⟨.inr rfl, ?_⟩
  have he:cn t id attr v = 4:=by unfold cn;rw [if_neg (by omega),if_pos (by assumption)]
  rw [kf he (by first | assumption | omega | decide)]
  exact f9 rfl rfl (⟨CoC.agg ⟨CoP.refl _,ar,ar,trivial⟩,cci he.symm,trivial⟩)
 have h1:=r1
 have h1:=b8 h1
 have hfd:=ae h1
 have hix:=il hfd
 refine w_8 ?_;refine bo rfl rfl (fun r2=>?_) (fun r2=>?_)
 ·
  have h2:=ae r2
  try simp only [ty] at h2
  (iterate 6 refine k9 (gtf r2) ?_);refine rq rfl rfl rfl rfl rfl ?_ (hp:=r2);refine ca ?_;refine a7 _ rfl (fun _=>?_) (fun e=>by cases e);refine w_7 ?_;refine ⟨.inr rfl, ?_⟩
  have he:cn t id attr v = 6:=by unfold cn;rw [if_neg (by omega),if_neg (by simpa using hfd),if_pos (by first | exact .inl (by assumption) | exact .inr (by assumption))]
  rw [kf he (by first | assumption | omega | decide)]
  exact f9 rfl rfl (⟨CoC.agg ⟨CoP.refl _,ar,ar,trivial⟩,cci he.symm,trivial⟩)
 have h2:=aa r2
 try simp only [ty] at h2
 (iterate 6 refine qy ?_ (hg:=(gff r2)));refine w_2 ?_;refine a7 _ rfl (fun r3=>?_) (fun r3=>?_)
 ·
  have h3:=r3
  have h3:=bw r2 h3
  have h3:=ae h3
  try simp only [ty] at h3
  refine w_7 ?_;refine ⟨.inr rfl, ?_⟩
  have he:cn t id attr v = 6:=by unfold cn;rw [if_neg (by omega),if_neg (by simpa using hfd),if_pos (by first | exact .inl (by assumption) | exact .inr (by assumption))]
  rw [kf he (by first | assumption | omega | decide)]
  exact f9 rfl rfl (⟨CoC.agg ⟨CoP.refl _,ar,ar,trivial⟩,cci he.symm,trivial⟩)
 have h3:=r3
 have h3:=bw r2 h3
 have h3:=aa h3
 try simp only [ty] at h3
 refine w_5 ?_;refine qcx aa6 (c86 _) ?_;refine w_2 ?_;refine a7 _ rfl (fun r4=>?_) (fun r4=>?_)
 ·
  have h4:=r4
  have h4:=b7 h4
  refine w_7 ?_;refine ⟨.inr rfl, ?_⟩
  have he:cn t id attr v = 1:=by unfold cn;rw [if_neg (by omega),if_neg (by simpa using hfd),if_neg (by rintro (h | h) <;> omega),if_pos (by assumption)]
  rw [kf he (by first | assumption | omega | decide)]
  exact f9 rfl rfl (⟨CoC.agg ⟨CoP.refl _,ar,ar,trivial⟩,cci he.symm,trivial⟩)
 have h4:=r4
 have h4:=b8 h4
 refine w_2 ?_
 have hw:=hT.width hix
 have he:cn t id attr v = 0:=by unfold cn;rw [if_neg (by omega),if_neg (by simpa using hfd),if_neg (by rintro (h | h) <;> omega),if_neg (by simp_all)]
 refine w_4 ?_;refine al rfl rfl rfl rfl rfl rfl a6a (ai8 t t.rows hok.1 hok.2.1 hok.2.2 (max (aj t.rows id) 0).toNat hix) (bg.refl _) trivial rfl rfl ?_;refine m9 4 ?_;refine w_3 ?_
 refine ap (E:=au) a8 ag [0,1,2,3,4,5,6,7,8,9,10] ?_;refine w_5 ?_
 refine rq (out:=⟨_, .v (.one (.ref 101 (t.rows.getD (max (aj t.rows id) 0).toNat default).vals.length))⟩) rfl rfl rfl (congrArg (fun h=>some (Out.mk _ (HR.v (HC.one h)))) (if_pos ⟨rfl,rfl⟩)) rfl ?_;refine w_6 ?_
 refine ⟨by kernel_rfl, ?_⟩;refine un 100 (id:=101) (lf Row.c (fk t.rows (max (aj t.rows id) 0).toNat attr.toNat v)) rfl rfl rfl ?_ ?_
 · exact a3n hix rfl (by omega) rfl rfl (lt3 (CoP.refl _) (CoP.refl _) (CoP.refl _))
 refine w_7 ?_;refine ⟨.inr rfl, ?_⟩
 rw [xr he,show (aj t.rows id).toNat = (max (aj t.rows id) 0).toNat from by omega]
 exact f9 rfl rfl (⟨CoC.agg ⟨CoP.refl _,CoP.refl _,CoP.sl a0y (.inl rfl) (fun h=>h) (fun _ _ _ _=>CoP.refl _),trivial⟩,cci he.symm,trivial⟩)
theorem abr:am Tryz.prog 72:=wgx Tryz.func72
theorem c72 (t:Tbl) (id attr:Int) (v:Val):ay Tryz.prog 72 [t.pc, .agg [.raw (.int .i64 id), .raw (.int .i64 attr)],v.pc] (bu [(chT t id attr v).pc,pI (cn t id attr v)]):=by
 refine av (nt:=62) a8 Tryz.func72 rfl rfl l9 ?_;refine sx7 ?_;refine m9 0 ?_;refine m9 1 ?_;refine m9 2 ?_;refine m9 3 ?_;refine w_6 ?_;refine qcx a2d (c88 _) ?_;refine w_7 ?_
 refine a7 _ rfl (fun r0=>?_) (fun r0=>?_)
 ·
  have h0:=r0
  have h0:=aa (b7 h0)
  try simp only [ty] at h0
  refine w_8 ?_;refine ⟨.inr rfl, ?_⟩
  have he:cn t id attr v = cz t:=by unfold cn;rw [if_pos (by assumption)]
  rw [kf he (by first | assumption | omega | decide)]
  exact f9 rfl rfl (⟨CoC.agg ⟨CoP.refl _,ar,ar,trivial⟩,cci he.symm,trivial⟩)
 have h0:=r0
 have h0:=ae (b8 h0)
 try simp only [ty] at h0
 have hT:=ey.1 h0
 have hok:=hT.ok
 refine w_6 ?_;refine qcx xx (c68 _ _) ?_;refine qb ?_;refine a7 _ rfl (fun r1=>?_) (fun r1=>?_)
 ·
  have h1:=r1
  have h1:=b7 h1
  have hfd:=aa h1
  refine w_7 ?_;refine ⟨.inr rfl, ?_⟩
  have he:cn t id attr v = 4:=by unfold cn;rw [if_neg (by omega),if_pos (by assumption)]
  rw [kf he (by first | assumption | omega | decide)]
  exact f9 rfl rfl (⟨CoC.agg ⟨CoP.refl _,ar,ar,trivial⟩,cci he.symm,trivial⟩)
 have h1:=r1
 have h1:=b8 h1
 have hfd:=ae h1
 have hix:=il hfd
 refine w_6 ?_;refine bo rfl rfl (fun r2=>?_) (fun r2=>?_)
 ·
  have h2:=ae r2
  try simp only [ty] at h2
  (iterate 6 refine k9 (gtf r2) ?_);refine rq rfl rfl rfl rfl rfl ?_ (hp:=r2);refine w_2 ?_;refine a7 _ rfl (fun _=>?_) (fun e=>by cases e);refine w_7 ?_;refine ⟨.inr rfl, ?_⟩
  have he:cn t id attr v = 6:=by unfold cn;rw [if_neg (by omega),if_neg (by simpa using hfd),if_pos (by first | exact .inl (by assumption) | exact .inr (by assumption))]
  rw [kf he (by first | assumption | omega | decide)]
  exact f9 rfl rfl (⟨CoC.agg ⟨CoP.refl _,ar,ar,trivial⟩,cci he.symm,trivial⟩)
 have h2:=aa r2
 try simp only [ty] at h2
 (iterate 6 refine qy ?_ (hg:=(gff r2)));refine w_3 ?_;refine a7 _ rfl (fun r3=>?_) (fun r3=>?_)
 ·
  have h3:=r3
  have h3:=bw r2 h3
  have h3:=ae h3
  try simp only [ty] at h3
  refine w_7 ?_;refine ⟨.inr rfl, ?_⟩
  have he:cn t id attr v = 6:=by unfold cn;rw [if_neg (by omega),if_neg (by simpa using hfd),if_pos (by first | exact .inl (by assumption) | exact .inr (by assumption))]
  rw [kf he (by first | assumption | omega | decide)]
  exact f9 rfl rfl (⟨CoC.agg ⟨CoP.refl _,ar,ar,trivial⟩,cci he.symm,trivial⟩)
 have h3:=r3
 have h3:=bw r2 h3
 have h3:=aa h3
 try simp only [ty] at h3
 refine w_3 ?_;refine qcx a5k (c76 _) ?_;refine w_3 ?_;refine a7 _ rfl (fun r4=>?_) (fun r4=>?_)
 ·
  have h4:=r4
  have h4:=b7 h4
  refine w_7 ?_;refine ⟨.inr rfl, ?_⟩
  have he:cn t id attr v = 1:=by unfold cn;rw [if_neg (by omega),if_neg (by simpa using hfd),if_neg (by rintro (h | h) <;> omega),if_pos (by assumption)]
  rw [kf he (by first | assumption | omega | decide)]
  exact f9 rfl rfl (⟨CoC.agg ⟨CoP.refl _,ar,ar,trivial⟩,cci he.symm,trivial⟩)
 have h4:=r4
 have h4:=b8 h4
 refine w_2 ?_
 have hw:=hT.width hix
 have he:cn t id attr v = 0:=by unfold cn;rw [if_neg (by omega),if_neg (by simpa using hfd),if_neg (by rintro (h | h) <;> omega),if_neg (by simp_all)]
 refine w_4 ?_;refine al rfl rfl rfl rfl rfl rfl a5j (ahu t t.rows hok.1 hok.2.1 hok.2.2 (max (aj t.rows id) 0).toNat hix) (bg.refl _) trivial rfl rfl ?_;refine m9 4 ?_;refine w_3 ?_
 refine ap (E:=au) a8 ag [0,1,2,3,4,5,6,7,8,9,10] ?_;refine w_5 ?_
 refine rq (out:=⟨_, .v (.one (.ref 101 (t.rows.getD (max (aj t.rows id) 0).toNat default).vals.length))⟩) rfl rfl rfl (congrArg (fun h=>some (Out.mk _ (HR.v (HC.one h)))) (if_pos ⟨rfl,rfl⟩)) rfl ?_;refine w_6 ?_
 refine ⟨by kernel_rfl, ?_⟩;refine un 100 (id:=101) (lf Row.c (fk t.rows (max (aj t.rows id) 0).toNat attr.toNat v)) rfl rfl rfl ?_ ?_
 · exact a3n hix rfl (by omega) rfl rfl (lt3 (CoP.refl _) (CoP.refl _) (CoP.refl _))
 refine w_7 ?_;refine ⟨.inr rfl, ?_⟩
 rw [xr he,show (aj t.rows id).toNat = (max (aj t.rows id) 0).toNat from by omega]
 exact f9 rfl rfl (⟨CoC.agg ⟨CoP.refl _,CoP.refl _,CoP.sl a0y (.inl rfl) (fun h=>h) (fun _ _ _ _=>CoP.refl _),trivial⟩,cci he.symm,trivial⟩)
end
section
open Go.Proofs
theorem agm:am Tryz.prog 46:=wgx Tryz.func46
theorem c46 (d:DB) (c:Chg) (hd:dbV d) (hc:c.ok):ay Tryz.prog 46 [lq d,c.pc] (bu [lq (f8 d c),pI (ah d c)]):=by
 refine av (nt:=145) a8 Tryz.func46 rfl rfl l9 ?_
 have hdl:=hd.1
 refine sx7 ?_;refine m9 0 ?_;refine m9 1 ?_;refine m9 2 ?_;refine w_9 ?_;refine a7 _ rfl (fun r0=>?_) (fun r0=>?_)
 ·
  have h0:=ae r0
  try simp only [ty] at h0
  refine dz ?_;refine a7 _ rfl (fun r1=>?_) (fun r1=>?_)
  ·
   have h1:=r1
   have h1:=aa (b7 h1)
   try simp only [ty] at h1
   refine w_7 ?_;refine ⟨.inr rfl, ?_⟩
   have he:ah d c = 1:=aE1 (by assumption) (by assumption)
   rw [cj he (by first | assumption | omega | decide)]
   exact f9 rfl rfl (⟨CoC.refl _,cci he.symm,trivial⟩)
  have h1:=r1
  have h1:=ae (b8 h1)
  try simp only [ty] at h1
  refine w_7 ?_;refine qcx a9k (c59 _ _) ?_;refine w_7 ?_;refine a7 _ rfl (fun r2=>?_) (fun r2=>?_)
  ·
   have h2:=r2
   have h2:=aa (b7 h2)
   try simp only [ty] at h2
   refine w_8 ?_;refine ⟨.inr rfl, ?_⟩
   have he:ah d c = j1 d c.table:=aE2 (by assumption) (by assumption)
   rw [cj he (by first | assumption | omega | decide)]
   exact f9 rfl rfl (⟨CoC.refl _,cci he.symm,trivial⟩)
  have h2:=r2
  have h2:=ae (b8 h2)
  try simp only [ty] at h2
  refine w_2 ?_;refine ap (E:=au) a8 ag [0,1,2,3,4,5,6,7,8,9,10] ?_;refine m9 3 ?_;refine w_2 ?_;refine ra 4 true rfl rfl rfl rfl rfl rfl ?_;refine w_2 ?_;refine m9 5 ?_
  refine ra 6 true rfl rfl rfl rfl rfl rfl ?_;refine w_4 ?_;refine ⟨by kernel_rfl, ?_⟩;refine ej ?_;refine ⟨.inr rfl, ?_⟩
  have he:ah d c = 0:=(aE2 (by assumption) (by assumption)).trans (by assumption)
  rw [aD1 he (by assumption)]
  exact f9 rfl rfl (⟨CoC.agg ⟨qz (Nat.zero_add _) rfl (fun i j hi hj=>CoP.of_eq (by simp [eo])) (jq (lt3 (CoP.refl _) (CoP.refl _) (CoP.refl _))),trivial⟩,cci he.symm,trivial⟩)
 have h0:=aa r0
 try simp only [ty] at h0
 refine w_8 ?_;refine bo rfl rfl (fun r3=>?_) (fun r3=>?_)
 ·
  have h3:=r3
  have h3:=aa (b7 h3)
  try simp only [ty] at h3
  (iterate 3 refine qy ?_ (hg:=(gtt r3)));refine w_2 ?_;refine bo rfl rfl (fun r4=>?_) (fun r4=>?_)
  ·
   have h4:=r4
   have h4:=dm r3 h4
   have h4:=aa (b7 h4)
   try simp only [ty] at h4
   (iterate 3 refine qy ?_ (hg:=(gtt r4)));refine w_2 ?_;refine a7 _ rfl (fun r5=>?_) (fun r5=>?_)
   ·
    have h5:=r5
    have h5:=dm r4 h5
    have h5:=aa (b7 h5)
    try simp only [ty] at h5
    refine w_7 ?_;refine ⟨.inr rfl, ?_⟩
    have he:ah d c = 1:=aE3 (by omega)
    rw [cj he (by first | assumption | omega | decide)]
    exact f9 rfl rfl (⟨CoC.refl _,cci he.symm,trivial⟩)
   have h5:=r5
   have h5:=dm r4 h5
   have h5:=ae (b8 h5)
   try simp only [ty] at h5
   refine w_6 ?_;refine qcx xq (c60 _ _) ?_;refine w_8 ?_;refine a7 _ rfl (fun r6=>?_) (fun r6=>?_)
   ·
    have h6:=ae r6
    try simp only [ty] at h6
    refine w_7 ?_;refine ⟨.inr rfl, ?_⟩
    have he:ah d c = 4:=aE4 (by omega) (by assumption)
    rw [cj he (by first | assumption | omega | decide)]
    exact f9 rfl rfl (⟨CoC.refl _,cci he.symm,trivial⟩)
   have h6:=aa r6
   try simp only [ty] at h6
   have hix:=h6
   have htb:=pg h6
   have hT:TOk (aq d c.name):=hd.at h6
   refine w_8 ?_;refine m9 7 ?_;refine w_9 ?_;refine a7 _ rfl (fun r7=>?_) (fun r7=>?_)
   ·
    have h7:=ae r7
    try simp only [ty] at h7
    refine w_5 ?_;refine qcx a21 (c61 _ _) ?_;refine w_3 ?_;refine m9 8 ?_;refine w_9 ?_;refine a7 _ rfl (fun r8=>?_) (fun r8=>?_)
    ·
     have h8:=r8
     have h8:=aa (b7 h8)
     try simp only [ty] at h8
     refine w_8 ?_;refine ⟨.inr rfl, ?_⟩
     have he:ah d c = c5 (aq d c.name) c.row:=(aE5 (by omega) hix).trans (cE2 (by assumption))
     rw [cj he (by first | assumption | omega | decide)]
     exact f9 rfl rfl (⟨CoC.refl _,cci he.symm,trivial⟩)
    have h8:=r8
    have h8:=ae (b8 h8)
    try simp only [ty] at h8
    refine w_6 ?_;refine rc rfl rfl rfl rfl rfl rfl nj (c73 d (bv d c.name).toNat (py (aq d c.name) c.row) (by have:=hd.1;omega)) (⟨CoC.refl _,cci (by omega),CoC.refl _,trivial⟩) rfl rfl ?_;refine w_4 ?_
    refine ⟨.inr rfl, ?_⟩
    have he:ah d c = 0:=((aE5 (by omega) hix).trans (cE2 (by assumption))).trans (by assumption)
    rw [aD2 he (by omega) (cT2 (by assumption))]
    exact f9 rfl rfl (⟨CoC.refl _,cci he.symm,trivial⟩)
   have h7:=aa r7
   try simp only [ty] at h7
   refine w_7 ?_;refine qcx sb (c62 _ _) ?_;refine gk ?_;refine a7 _ rfl (fun r9=>?_) (fun r9=>?_)
   ·
    have h9:=r9
    have h9:=b7 h9
    have hfd:¬ 0 ≤ aj (aq d c.name).rows c.row.id:=aa h9
    refine w_7 ?_;refine ⟨.inr rfl, ?_⟩
    have he:ah d c = 4:=(aE5 (by omega) hix).trans (cE4 (by assumption) hfd)
    rw [cj he (by first | assumption | omega | decide)]
    exact f9 rfl rfl (⟨CoC.refl _,cci he.symm,trivial⟩)
   have h9:=r9
   have h9:=b8 h9
   have hfd:0 ≤ aj (aq d c.name).rows c.row.id:=ae h9
   have hra:=il hfd
   have hra2:=hra
   unfold aq at hra2
   refine w_3 ?_;refine ap (E:=au) a8 ag [0,1,2,3,4,5,6,7,8] ?_;refine w_7 ?_
   refine qcx y7 (c54 ((aq d c.name).rows.getD (max (aj (aq d c.name).rows c.row.id) 0).toNat default) c.row (hT.ok.2.2 _ hra) hc.2.1) ?_;refine w_2 ?_;refine ⟨by kernel_rfl, ?_⟩
   refine a7 _ rfl (fun r10=>?_) (fun r10=>?_)
   ·
    have h10:=r10
    have h10:=b7 h10
    have hval:¬ _:=fun e=>absurd ((mo hfd).2 e) (aa h10)
    refine w_7 ?_;refine ⟨.inr rfl, ?_⟩
    have he:ah d c = 16:=(aE5 (by omega) hix).trans (a83 (by assumption) hfd hval)
    rw [cj he (by first | assumption | omega | decide)]
    exact f9 rfl rfl (⟨CoC.refl _,cci he.symm,trivial⟩)
   have h10:=r10
   have h10:=b8 h10
   have hval:=(mo hfd).1 (ae h10)
   refine w_8 ?_;refine a7 _ rfl (fun r11=>?_) (fun r11=>?_)
   ·
    have h11:=ae r11
    try simp only [ty] at h11
    refine w_6 ?_;refine qcx a4p (c74 _ _) ?_;refine w_3 ?_;refine m9 9 ?_;refine w_8 ?_
    refine rc rfl rfl rfl rfl rfl rfl nj (c73 d (bv d c.name).toNat (qd (aq d c.name) c.row.id) (by have:=hd.1;omega)) (⟨CoC.refl _,cci (by omega),CoC.refl _,trivial⟩) rfl rfl ?_;refine w_4 ?_
    refine ⟨.inr rfl, ?_⟩
    have he:ah d c = 0:=((aE5 (by omega) hix).trans (cE3 (by assumption) hfd hval)).trans (by unfold d4;rw [if_neg (by have:=ey.2 hT;omega),if_pos hfd])
    rw [aD2 he (by omega) (cT3 (by assumption))]
    exact f9 rfl rfl (⟨CoC.refl _,cci he.symm,trivial⟩)
   have h11:=aa r11
   try simp only [ty] at h11
   refine gk ?_;refine qcx a1y (c63 _ _ _ _) ?_;refine w_3 ?_;refine m9 10 ?_;refine w_9 ?_;refine a7 _ rfl (fun r12=>?_) (fun r12=>?_)
   ·
    have h12:=r12
    have h12:=aa (b7 h12)
    try simp only [ty] at h12
    refine w_8 ?_;refine ⟨.inr rfl, ?_⟩
    have he:ah d c = cn (aq d c.name) c.row.id c.attr c.value:=(aE5 (by omega) hix).trans (cEc (by assumption) (by assumption) hfd hval)
    rw [cj he (by first | assumption | omega | decide)]
    exact f9 rfl rfl (⟨CoC.refl _,cci he.symm,trivial⟩)
   have h12:=r12
   have h12:=ae (b8 h12)
   try simp only [ty] at h12
   refine w_6 ?_;refine rc rfl rfl rfl rfl rfl rfl nj (c73 d (bv d c.name).toNat (chT (aq d c.name) c.row.id c.attr c.value) (by have:=hd.1;omega)) (⟨CoC.refl _,cci (by omega),CoC.refl _,trivial⟩) rfl rfl ?_
   refine w_4 ?_;refine ⟨.inr rfl, ?_⟩
   have he:ah d c = 0:=((aE5 (by omega) hix).trans (cEc (by assumption) (by assumption) hfd hval)).trans (by assumption)
   rw [aD2 he (by omega) (cT4 (by assumption) (by assumption))]
   exact f9 rfl rfl (⟨CoC.refl _,cci he.symm,trivial⟩)
  have h4:=r4
  have h4:=dm r3 h4
  have h4:=ae (b8 h4)
  try simp only [ty] at h4
  (iterate 3 refine k9 (gft r4) ?_);refine rq rfl rfl rfl rfl rfl ?_ (hp:=r4);refine ca ?_;refine a7 _ rfl (fun e=>by cases e) (fun _=>?_);refine w_6 ?_;refine qcx xq (c60 _ _) ?_;refine w_8 ?_
  refine a7 _ rfl (fun r13=>?_) (fun r13=>?_)
  ·
   have h13:=ae r13
   try simp only [ty] at h13
   refine w_7 ?_;refine ⟨.inr rfl, ?_⟩
   have he:ah d c = 4:=aE4 (by omega) (by assumption)
   rw [cj he (by first | assumption | omega | decide)]
   exact f9 rfl rfl (⟨CoC.refl _,cci he.symm,trivial⟩)
  have h13:=aa r13
  try simp only [ty] at h13
  have hix:=h13
  have htb:=pg h13
  have hT:TOk (aq d c.name):=hd.at h13
  refine w_8 ?_;refine m9 11 ?_;refine w_9 ?_;refine a7 _ rfl (fun r14=>?_) (fun r14=>?_)
  ·
   have h14:=ae r14
   try simp only [ty] at h14
   refine w_5 ?_;refine qcx a21 (c61 _ _) ?_;refine w_3 ?_;refine m9 12 ?_;refine w_9 ?_;refine a7 _ rfl (fun r15=>?_) (fun r15=>?_)
   ·
    have h15:=r15
    have h15:=aa (b7 h15)
    try simp only [ty] at h15
    refine w_8 ?_;refine ⟨.inr rfl, ?_⟩
    have he:ah d c = c5 (aq d c.name) c.row:=(aE5 (by omega) hix).trans (cE2 (by assumption))
    rw [cj he (by first | assumption | omega | decide)]
    exact f9 rfl rfl (⟨CoC.refl _,cci he.symm,trivial⟩)
   have h15:=r15
   have h15:=ae (b8 h15)
   try simp only [ty] at h15
   refine w_6 ?_;refine rc rfl rfl rfl rfl rfl rfl nj (c73 d (bv d c.name).toNat (py (aq d c.name) c.row) (by have:=hd.1;omega)) (⟨CoC.refl _,cci (by omega),CoC.refl _,trivial⟩) rfl rfl ?_;refine w_4 ?_
   refine ⟨.inr rfl, ?_⟩
   have he:ah d c = 0:=((aE5 (by omega) hix).trans (cE2 (by assumption))).trans (by assumption)
   rw [aD2 he (by omega) (cT2 (by assumption))]
   exact f9 rfl rfl (⟨CoC.refl _,cci he.symm,trivial⟩)
  have h14:=aa r14
  try simp only [ty] at h14
  refine w_7 ?_;refine qcx sb (c62 _ _) ?_;refine gk ?_;refine a7 _ rfl (fun r16=>?_) (fun r16=>?_)
  ·
   have h16:=r16
   have h16:=b7 h16
   have hfd:¬ 0 ≤ aj (aq d c.name).rows c.row.id:=aa h16
   refine w_7 ?_;refine ⟨.inr rfl, ?_⟩
   have he:ah d c = 4:=(aE5 (by omega) hix).trans (cE4 (by assumption) hfd)
   rw [cj he (by first | assumption | omega | decide)]
   exact f9 rfl rfl (⟨CoC.refl _,cci he.symm,trivial⟩)
  have h16:=r16
  have h16:=b8 h16
  have hfd:0 ≤ aj (aq d c.name).rows c.row.id:=ae h16
  have hra:=il hfd
  have hra2:=hra
  unfold aq at hra2
  refine w_3 ?_;refine ap (E:=au) a8 ag [0,1,2,3,4,5,6,7,8] ?_;refine w_7 ?_
  refine qcx y7 (c54 ((aq d c.name).rows.getD (max (aj (aq d c.name).rows c.row.id) 0).toNat default) c.row (hT.ok.2.2 _ hra) hc.2.1) ?_;refine w_2 ?_;refine ⟨by kernel_rfl, ?_⟩
  refine a7 _ rfl (fun r17=>?_) (fun r17=>?_)
  ·
   have h17:=r17
   have h17:=b7 h17
   have hval:¬ _:=fun e=>absurd ((mo hfd).2 e) (aa h17)
   refine w_7 ?_;refine ⟨.inr rfl, ?_⟩
   have he:ah d c = 16:=(aE5 (by omega) hix).trans (a83 (by assumption) hfd hval)
   rw [cj he (by first | assumption | omega | decide)]
   exact f9 rfl rfl (⟨CoC.refl _,cci he.symm,trivial⟩)
  have h17:=r17
  have h17:=b8 h17
  have hval:=(mo hfd).1 (ae h17)
  refine w_8 ?_;refine a7 _ rfl (fun r18=>?_) (fun r18=>?_)
  ·
   have h18:=ae r18
   try simp only [ty] at h18
   refine w_6 ?_;refine qcx a4p (c74 _ _) ?_;refine w_3 ?_;refine m9 13 ?_;refine w_8 ?_
   refine rc rfl rfl rfl rfl rfl rfl nj (c73 d (bv d c.name).toNat (qd (aq d c.name) c.row.id) (by have:=hd.1;omega)) (⟨CoC.refl _,cci (by omega),CoC.refl _,trivial⟩) rfl rfl ?_;refine w_4 ?_
   refine ⟨.inr rfl, ?_⟩
   have he:ah d c = 0:=((aE5 (by omega) hix).trans (cE3 (by assumption) hfd hval)).trans (by unfold d4;rw [if_neg (by have:=ey.2 hT;omega),if_pos hfd])
   rw [aD2 he (by omega) (cT3 (by assumption))]
   exact f9 rfl rfl (⟨CoC.refl _,cci he.symm,trivial⟩)
  have h18:=aa r18
  try simp only [ty] at h18
  refine gk ?_;refine qcx a1y (c63 _ _ _ _) ?_;refine w_3 ?_;refine m9 14 ?_;refine w_9 ?_;refine a7 _ rfl (fun r19=>?_) (fun r19=>?_)
  ·
   have h19:=r19
   have h19:=aa (b7 h19)
   try simp only [ty] at h19
   refine w_8 ?_;refine ⟨.inr rfl, ?_⟩
   have he:ah d c = cn (aq d c.name) c.row.id c.attr c.value:=(aE5 (by omega) hix).trans (cEc (by assumption) (by assumption) hfd hval)
   rw [cj he (by first | assumption | omega | decide)]
   exact f9 rfl rfl (⟨CoC.refl _,cci he.symm,trivial⟩)
  have h19:=r19
  have h19:=ae (b8 h19)
  try simp only [ty] at h19
  refine w_6 ?_;refine rc rfl rfl rfl rfl rfl rfl nj (c73 d (bv d c.name).toNat (chT (aq d c.name) c.row.id c.attr c.value) (by have:=hd.1;omega)) (⟨CoC.refl _,cci (by omega),CoC.refl _,trivial⟩) rfl rfl ?_
  refine w_4 ?_;refine ⟨.inr rfl, ?_⟩
  have he:ah d c = 0:=((aE5 (by omega) hix).trans (cEc (by assumption) (by assumption) hfd hval)).trans (by assumption)
  rw [aD2 he (by omega) (cT4 (by assumption) (by assumption))]
  exact f9 rfl rfl (⟨CoC.refl _,cci he.symm,trivial⟩)
 have h3:=r3
 have h3:=ae (b8 h3)
 try simp only [ty] at h3
 (iterate 3 refine k9 (gft r3) ?_);refine rq rfl rfl rfl rfl rfl ?_ (hp:=r3);refine qy ?_;(iterate 3 refine k9 rfl ?_);refine w_2 ?_;refine a7 _ rfl (fun e=>by cases e) (fun _=>?_);refine w_6 ?_
 refine qcx xq (c60 _ _) ?_;refine w_8 ?_;refine a7 _ rfl (fun r20=>?_) (fun r20=>?_)
 ·
  have h20:=ae r20
  try simp only [ty] at h20
  refine w_7 ?_;refine ⟨.inr rfl, ?_⟩
  have he:ah d c = 4:=aE4 (by omega) (by assumption)
  rw [cj he (by first | assumption | omega | decide)]
  exact f9 rfl rfl (⟨CoC.refl _,cci he.symm,trivial⟩)
 have h20:=aa r20
 try simp only [ty] at h20
 have hix:=h20
 have htb:=pg h20
 have hT:TOk (aq d c.name):=hd.at h20
 refine w_8 ?_;refine m9 15 ?_;refine w_9 ?_;refine a7 _ rfl (fun r21=>?_) (fun r21=>?_)
 ·
  have h21:=ae r21
  try simp only [ty] at h21
  refine w_5 ?_;refine qcx a21 (c61 _ _) ?_;refine w_3 ?_;refine m9 16 ?_;refine w_9 ?_;refine a7 _ rfl (fun r22=>?_) (fun r22=>?_)
  ·
   have h22:=r22
   have h22:=aa (b7 h22)
   try simp only [ty] at h22
   refine w_8 ?_;refine ⟨.inr rfl, ?_⟩
   have he:ah d c = c5 (aq d c.name) c.row:=(aE5 (by omega) hix).trans (cE2 (by assumption))
   rw [cj he (by first | assumption | omega | decide)]
   exact f9 rfl rfl (⟨CoC.refl _,cci he.symm,trivial⟩)
  have h22:=r22
  have h22:=ae (b8 h22)
  try simp only [ty] at h22
  refine w_6 ?_;refine rc rfl rfl rfl rfl rfl rfl nj (c73 d (bv d c.name).toNat (py (aq d c.name) c.row) (by have:=hd.1;omega)) (⟨CoC.refl _,cci (by omega),CoC.refl _,trivial⟩) rfl rfl ?_;refine w_4 ?_
  refine ⟨.inr rfl, ?_⟩
  have he:ah d c = 0:=((aE5 (by omega) hix).trans (cE2 (by assumption))).trans (by assumption)
  rw [aD2 he (by omega) (cT2 (by assumption))]
  exact f9 rfl rfl (⟨CoC.refl _,cci he.symm,trivial⟩)
 have h21:=aa r21
 try simp only [ty] at h21
 refine w_7 ?_;refine qcx sb (c62 _ _) ?_;refine gk ?_;refine a7 _ rfl (fun r23=>?_) (fun r23=>?_)
 ·
  have h23:=r23
  have h23:=b7 h23
  have hfd:¬ 0 ≤ aj (aq d c.name).rows c.row.id:=aa h23
  refine w_7 ?_;refine ⟨.inr rfl, ?_⟩
  have he:ah d c = 4:=(aE5 (by omega) hix).trans (cE4 (by assumption) hfd)
  rw [cj he (by first | assumption | omega | decide)]
  exact f9 rfl rfl (⟨CoC.refl _,cci he.symm,trivial⟩)
 have h23:=r23
 have h23:=b8 h23
 have hfd:0 ≤ aj (aq d c.name).rows c.row.id:=ae h23
 have hra:=il hfd
 have hra2:=hra
 unfold aq at hra2
 refine w_3 ?_;refine ap (E:=au) a8 ag [0,1,2,3,4,5,6,7,8] ?_;refine w_7 ?_
 refine qcx y7 (c54 ((aq d c.name).rows.getD (max (aj (aq d c.name).rows c.row.id) 0).toNat default) c.row (hT.ok.2.2 _ hra) hc.2.1) ?_;refine w_2 ?_;refine ⟨by kernel_rfl, ?_⟩
 refine a7 _ rfl (fun r24=>?_) (fun r24=>?_)
 ·
  have h24:=r24
  have h24:=b7 h24
  have hval:¬ _:=fun e=>absurd ((mo hfd).2 e) (aa h24)
  refine w_7 ?_;refine ⟨.inr rfl, ?_⟩
  have he:ah d c = 16:=(aE5 (by omega) hix).trans (a83 (by assumption) hfd hval)
  rw [cj he (by first | assumption | omega | decide)]
  exact f9 rfl rfl (⟨CoC.refl _,cci he.symm,trivial⟩)
 have h24:=r24
 have h24:=b8 h24
 have hval:=(mo hfd).1 (ae h24)
 refine w_8 ?_;refine a7 _ rfl (fun r25=>?_) (fun r25=>?_)
 ·
  have h25:=ae r25
  try simp only [ty] at h25
  refine w_6 ?_;refine qcx a4p (c74 _ _) ?_;refine w_3 ?_;refine m9 17 ?_;refine w_8 ?_
  refine rc rfl rfl rfl rfl rfl rfl nj (c73 d (bv d c.name).toNat (qd (aq d c.name) c.row.id) (by have:=hd.1;omega)) (⟨CoC.refl _,cci (by omega),CoC.refl _,trivial⟩) rfl rfl ?_;refine w_4 ?_
  refine ⟨.inr rfl, ?_⟩
  have he:ah d c = 0:=((aE5 (by omega) hix).trans (cE3 (by assumption) hfd hval)).trans (by unfold d4;rw [if_neg (by have:=ey.2 hT;omega),if_pos hfd])
  rw [aD2 he (by omega) (cT3 (by assumption))]
  exact f9 rfl rfl (⟨CoC.refl _,cci he.symm,trivial⟩)
 have h25:=aa r25
 try simp only [ty] at h25
 refine gk ?_;refine qcx a1y (c63 _ _ _ _) ?_;refine w_3 ?_;refine m9 18 ?_;refine w_9 ?_;refine a7 _ rfl (fun r26=>?_) (fun r26=>?_)
 ·
  have h26:=r26
  have h26:=aa (b7 h26)
  try simp only [ty] at h26
  refine w_8 ?_;refine ⟨.inr rfl, ?_⟩
  have he:ah d c = cn (aq d c.name) c.row.id c.attr c.value:=(aE5 (by omega) hix).trans (cEc (by assumption) (by assumption) hfd hval)
  rw [cj he (by first | assumption | omega | decide)]
  exact f9 rfl rfl (⟨CoC.refl _,cci he.symm,trivial⟩)
 have h26:=r26
 have h26:=ae (b8 h26)
 try simp only [ty] at h26
 refine w_6 ?_;refine rc rfl rfl rfl rfl rfl rfl nj (c73 d (bv d c.name).toNat (chT (aq d c.name) c.row.id c.attr c.value) (by have:=hd.1;omega)) (⟨CoC.refl _,cci (by omega),CoC.refl _,trivial⟩) rfl rfl ?_
 refine w_4 ?_;refine ⟨.inr rfl, ?_⟩
 have he:ah d c = 0:=((aE5 (by omega) hix).trans (cEc (by assumption) (by assumption) hfd hval)).trans (by assumption)
 rw [aD2 he (by omega) (cT4 (by assumption) (by assumption))]
 exact f9 rfl rfl (⟨CoC.refl _,cci he.symm,trivial⟩)
end
section
theorem a07 {r x:Row}:∀ {l:List Row},x ∈ f6 r l ↔ x = r ∨ x ∈ l
 | []=>by simp [f6]
 | y :: l=>by
  simp only [f6]
  split
  · simp
  simp only [List.mem_cons,a07 (l:=l)]
  constructor
  · rintro (h | h | h) <;> simp [h]
  rintro (h | h | h) <;> simp [h]
theorem zr {r:Row}:∀ {l:List Row},ff l → (∀ x ∈ l,x.id ≠ r.id) → ff (f6 r l)
 | [],_,_=>by simp [f6,ff]
 | y :: l,hs,hn=>by
  have hs':=hs
  unfold ff at hs'
  rw [List.pairwise_cons] at hs'
  simp only [f6]
  split
  · rename_i h
    refine List.Pairwise.cons (fun x hx=>?_) hs
    rcases List.mem_cons.1 hx with rfl | hx
    · exact h
    have:=hs'.1 x hx;omega
  rename_i h
  refine List.Pairwise.cons (fun x hx=>?_) (zr hs'.2 fun x hx=>hn x (by simp [hx]))
  rcases a07.1 hx with rfl | hx
  · have:=hn y (by simp);omega
  exact hs'.1 x hx
theorem wq {l:List Row} {id:Int} (h:aj l id < 0):∀ x ∈ l,x.id ≠ id:=by
 intro x hx e
 have h2:=a7x (p:=fun r:Row=>decide (r.id = id)) (l:=l)
 have h3:(l.any fun r=>decide (r.id = id)) = true:=by rw [List.any_eq_true];exact ⟨x,hx,by simp [e]⟩
 rw [h3] at h2
 simp only [decide_eq_true_eq] at h2
 unfold aj at h
 omega
theorem ag0 {t:Tbl} {r:Row} (h:c5 t r = 0):TOk (py t r):=by
 obtain ⟨h1,h2,h3,h4,h5,h6⟩:=a4z h
 have hT:=ey.1 h1
 rw [qr h]
 refine ⟨hT.nm,hT.na,by show (f6 r t.rows).length ≤ 1000;rw [a57];omega,hT.nms, ?_⟩;refine qo (fun x hx=>?_) (zr (fu hT.rs) (wq h5))
 rcases a07.1 hx with rfl | hx
 · exact ⟨h3,h2,h4⟩
 exact go hT.rs x hx
theorem ad7 {t:Tbl} {i:Int} (h:d4 t i = 0):cz t = 0 ∧ 0 ≤ aj t.rows i:=by
 unfold d4 at h
 split at h
 · omega
 split at h
 · exact ⟨by omega,by assumption⟩
 omega
theorem agz {t:Tbl} {i:Int} (h:d4 t i = 0):TOk (qd t i):=by
 have hT:=ey.1 (ad7 h).1
 rw [v6 h]
 have hsub:=List.eraseIdx_sublist t.rows (aj t.rows i).toNat
 refine ⟨hT.nm,hT.na,by have:=hsub.length_le;have:=hT.nr;show (t.rows.eraseIdx _).length ≤ 1000;omega,hT.nms, ?_⟩
 exact qo (fun x hx=>go hT.rs x (hsub.subset hx)) (List.Pairwise.sublist hsub (fu hT.rs))
theorem z8 {t:Tbl} {i a:Int} {v:Val} (h:cn t i a v = 0):cz t = 0 ∧ 0 ≤ aj t.rows i ∧ 0 ≤ a ∧ a < t.attrs.length ∧ d5 v = true:=by
 unfold cn at h
 split at h
 · omega
 split at h
 · omega
 split at h
 · omega
 split at h
 · omega
 rename_i h1 h2 h3 h4
 exact ⟨by omega,by omega,by omega,by omega,by simpa using h4⟩
theorem a6k {l:List Row} {i k:Nat} {v:Val} (hi:i < l.length):(fk l i k v).map Row.id = l.map Row.id:=by
 unfold fk
 apply List.ext_getElem?
 intro j
 rw [List.getElem?_map,List.getElem?_map,List.getElem?_set]
 split
 · rename_i h
   subst h
   rw [List.getElem?_eq_getElem hi]
   simp [List.getD,List.getElem?_eq_getElem hi]
 rfl
theorem a1c {l:List Row}:ff l ↔ (l.map Row.id).Pairwise (· < ·):=by
 rw [List.pairwise_map]
theorem ah9 {t:Tbl} {i a:Int} {v:Val} (h:cn t i a v = 0):TOk (chT t i a v):=by
 obtain ⟨h1,h2,h3,h4,h5⟩:=z8 h
 have hT:=ey.1 h1
 have hix:(aj t.rows i).toNat < t.rows.length:=by have:=il h2;rwa [show max (aj t.rows i) 0 = aj t.rows i from by omega] at this
 rw [xr h]
 refine ⟨hT.nm,hT.na,by show (fk _ _ _ _).length ≤ 1000;rw [a0y];exact hT.nr,hT.nms, ?_⟩;refine qo (fun x hx=>?_) (by rw [a1c,a6k hix,← a1c];exact fu hT.rs)
 have hold:=go hT.rs _ (List.getElem_mem hix)
 have hgd:=cg _ _ hix
 unfold fk at hx
 rcases List.mem_or_eq_of_mem_set hx with hx | rfl
 · exact go hT.rs x hx
 refine ⟨by show 0 < (t.rows.getD _ default).id;rw [hgd];exact hold.1,by show (List.set _ _ _).length = _;rw [List.length_set,hgd];exact hold.2.1, ?_⟩
 rw [List.all_eq_true]
 intro y hy
 rcases List.mem_or_eq_of_mem_set hy with hy | rfl
 · rw [hgd] at hy
   exact List.all_eq_true.1 hold.2.2 y hy
 exact h5
theorem aa4 {t:Tbl} {c:Chg} (h:fe t c = 0):TOk (gc t c):=by
 unfold fe at h
 unfold gc
 split at h
 · rename_i h2;rw [if_pos h2];exact ag0 h
 rename_i h2
 rw [if_neg h2]
 split at h
 · omega
 split at h
 · omega
 split at h
 · rename_i h3;rw [if_pos h3];exact agz h
 rename_i h3;rw [if_neg h3];exact ah9 h
theorem a1m {d:DB} {c:Chg} (hd:dbV d):dbV (f8 d c):=by
 by_cases he:ah d c = 0
 · unfold ah at he
   split at he
   · rename_i h1
     split at he
     · omega
     obtain ⟨g1,g2,g3⟩:=ae8 he
     have he':ah d c = 0:=by rw [aE2 h1 (by simp_all)];exact he
     rw [aD1 he' h1]
     refine ⟨by simp;omega,fun j hj=>?_⟩
     by_cases h:j < d.length
     · rw [show (d ++ [c.table]).getD j default = d.getD j default from by simp [List.getD,List.getElem?_append_left h]]
       exact hd.2 j h
     obtain rfl:j = d.length:=by simp at hj;omega
     rw [show (d ++ [c.table]).getD d.length default = c.table from by simp [List.getD]]
     exact g1
   rename_i h1
   split at he
   · omega
   split at he
   · omega
   rename_i h2 h3
   have he':ah d c = 0:=by rw [aE5 (by omega) h3];exact he
   rw [aD2 he' h1 rfl]
   refine ⟨by rw [List.length_set];exact hd.1,fun j hj=>?_⟩
   rw [List.length_set] at hj
   by_cases h:j = (bv d c.name).toNat
   · subst h
     rw [show (d.set (bv d c.name).toNat (gc (aq d c.name) c)).getD (bv d c.name).toNat default = gc (aq d c.name) c from by simp [List.getD,hj]]
     exact ey.2 (aa4 he)
   rw [show (d.set (bv d c.name).toNat (gc (aq d c.name) c)).getD j default = d.getD j default from by simp only [List.getD,List.getElem?_set_ne (Ne.symm h)]]
   exact hd.2 j hj
 rw [cj rfl he];exact hd
theorem dbV.ok {d:DB} (h:dbV d):aco d:=⟨by have:=h.1;omega,fun j hj=>aa8 (h.2 j hj)⟩
theorem my:dbV []:=⟨by simp,fun j hj=>by simp at hj⟩
theorem aai {d:DB} {l:List Chg} {i:Nat} (hi:i < l.length) (h:ah d (l.getD i default) = 0):ed d (l.drop i) = ed (f8 d (l.getD i default)) (l.drop (i + 1)) ∧ gu d (l.drop i) = gu (f8 d (l.getD i default)) (l.drop (i + 1)):=by
 rw [List.drop_eq_getElem_cons hi]
 rw [cg _ _ hi] at h ⊢
 simp only [ed,gu,h]
 simp
theorem abm {d:DB} {l:List Chg} {i:Nat} (hi:i < l.length) (h:¬ ah d (l.getD i default) = 0):ed d (l.drop i) = ah d (l.getD i default) ∧ gu d (l.drop i) = []:=by
 rw [List.drop_eq_getElem_cons hi]
 rw [cg _ _ hi] at h ⊢
 simp [ed,gu,h]
theorem aac:∀ {l:List Chg} {d:DB},dbV d → dbV (gu d l)
 | [],d,h=>h
 | c :: l,d,h=>by
  simp only [gu]
  split
  · exact my
  exact aac (a1m h)
theorem ahr {n:Nat} (hn:n ≤ 8) {f:Nat → Nat → PV}:CoP (.sl (0 + n) 1 false (eo 0 f (fun i j=>[PV.raw (.string ⟨#[97]⟩), .raw (.string ⟨#[98]⟩), .raw (.string ⟨#[99]⟩), .raw (.string ⟨#[100]⟩), .raw (.string ⟨#[101]⟩), .raw (.string ⟨#[102]⟩), .raw (.string ⟨#[103]⟩), .raw (.string ⟨#[104]⟩)].getD (i * 1 + j) .any))) (it (ij.take n)):=by
 refine CoP.sl (by simp [ij];omega) (.inl rfl) (fun h=>h) fun i j hi hj=>CoP.of_eq ?_
 obtain rfl:j = 0:=by omega
 have hi8:i < n:=by omega
 simp only [eo,Nat.not_lt_zero,if_false,Nat.sub_zero,Nat.mul_one,Nat.add_zero,lf,List.getD,List.getElem?_take,hi8,if_true]
 have:i < 8:=by omega
 match i,this with
 | 0,_=>rfl
 | 1,_=>rfl
 | 2,_=>rfl
 | 3,_=>rfl
 | 4,_=>rfl
 | 5,_=>rfl
 | 6,_=>rfl
 | 7,_=>rfl
theorem vf {α:Type} [Inhabited α] {l:List α} {k:Nat} (h:l.length ≤ k):l.getD k default = default:=by simp [List.getD,h]
theorem abt {g:UInt8} {i:Nat}:0 ≤ (i:Int) * (1 + (g.toNat:Int) % 3) ∧ (i:Int) * (1 + (g.toNat:Int) % 3) ≤ 3 * i:=by
 have h:(g.toNat:Int) % 3 = 0 ∨ (g.toNat:Int) % 3 = 1 ∨ (g.toNat:Int) % 3 = 2:=by omega
 rcases h with h | h | h <;> rw [h] <;> omega
theorem a15 {l:List UInt8} {n:Nat}:(ge l n).length = n:=by simp [ge]
theorem a1i {x:Rcp} {n:Nat}:(dg x n).length = x.rows.length:=by simp [dg]
theorem pl {l:List UInt8} {n k j:Nat} (h:k < n):lf Val.c (ge l n) k j = Val.c (ofV (l.getD k default)) j:=by
 unfold lf ge
 rw [n7 _ _ _ h]
theorem aad {x:Rcp} {n i j:Nat} (h:i < x.rows.length):lf Row.c (dg x n) i j = Row.c ⟨1 + (i:Int) * (1 + (x.gap.toNat:Int) % 3),ge (x.rows.getD i default) n⟩ j:=by
 unfold lf dg
 rw [n7 _ _ _ h]
def jr (s:Stt):List Chg:=s.done.flatten ++ s.now
def bm (s:Stt):DB:=gu [] (jr s)
def gr (s:Stt) (x:Opn):Chg :=
 let k:=x.kind.toNat % 9
 if k = 0 then { (default:Chg) with kind:=1,name:=bf x,table:=ep x }
 else if bv (bm s) (bf x) < 0 then default
 else
  let t:=aq (bm s) (bf x)
  if k = 1 then { (default:Chg) with kind:=2,name:=t.name,row:=ec x }
  else if ¬ 0 ≤ aj t.rows x.id then default
  else if k = 2 then { (default:Chg) with kind:=3,name:=t.name,row:=t.rows.getD (max (aj t.rows x.id) 0).toNat default }
  else { (default:Chg) with kind:=4,name:=t.name,row:=t.rows.getD (max (aj t.rows x.id) 0).toNat default,attr:=x.attr,value:=ofV x.value }
def eq (s:Stt) (x:Opn):Int :=
 let k:=x.kind.toNat % 9
 if k = 0 then j1 (bm s) (ep x)
 else if bv (bm s) (bf x) < 0 then 4
 else
  let t:=aq (bm s) (bf x)
  if k = 1 then c5 t (ec x)
  else if ¬ 0 ≤ aj t.rows x.id then 4
  else if k = 2 then 0
  else cn t x.id x.attr (ofV x.value)
structure a0b (s:Stt):Prop where
 ld:s.done.flatten.length ≤ 68719476736
 ln:s.now.length ≤ 68719476736
 lt:s.done.length ≤ 68719476736
 lu:s.undone.length ≤ 68719476736
 ok:j8 (jr s)
structure gw (x:Opn):Prop where
 lv:x.vals.length ≤ 68719476736
 lr:x.t.rows.length ≤ 68719476736
theorem a0b.V {s:Stt} (_:a0b s):dbV (bm s):=aac my
theorem a90 {s:Stt} {x:Opn} (h:x.kind.toNat % 9 = 0):gr s x = { (default:Chg) with kind:=1,name:=bf x,table:=ep x } ∧ eq s x = j1 (bm s) (ep x):=by simp [gr,eq,h]
theorem a1j {s:Stt} {x:Opn} (h:¬ x.kind.toNat % 9 = 0) (h2:bv (bm s) (bf x) < 0):gr s x = default ∧ eq s x = 4:=by simp [gr,eq,h,h2]
theorem a8k {s:Stt} {x:Opn} (h:x.kind.toNat % 9 = 1) (h2:¬ bv (bm s) (bf x) < 0):gr s x = { (default:Chg) with kind:=2,name:=(aq (bm s) (bf x)).name,row:=ec x } ∧ eq s x = c5 (aq (bm s) (bf x)) (ec x):=by simp [gr,eq,h,h2]
theorem a4f {s:Stt} {x:Opn} (h:¬ x.kind.toNat % 9 = 0) (h1:¬ x.kind.toNat % 9 = 1) (h2:¬ bv (bm s) (bf x) < 0) (h3:¬ 0 ≤ aj (aq (bm s) (bf x)).rows x.id):gr s x = default ∧ eq s x = 4:=by simp [gr,eq,h,h1,h2,h3]
theorem a9a {s:Stt} {x:Opn} (h:x.kind.toNat % 9 = 2) (h2:¬ bv (bm s) (bf x) < 0) (h3:0 ≤ aj (aq (bm s) (bf x)).rows x.id):gr s x = { (default:Chg) with kind:=3,name:=(aq (bm s) (bf x)).name,row:=(aq (bm s) (bf x)).rows.getD (max (aj (aq (bm s) (bf x)).rows x.id) 0).toNat default } ∧ eq s x = 0:=by simp [gr,eq,h,h2,h3]
theorem a8q {s:Stt} {x:Opn} (h:¬ x.kind.toNat % 9 = 0) (h1:¬ x.kind.toNat % 9 = 1) (h':¬ x.kind.toNat % 9 = 2) (h2:¬ bv (bm s) (bf x) < 0) (h3:0 ≤ aj (aq (bm s) (bf x)).rows x.id) :
 gr s x = { (default:Chg) with kind:=4,name:=(aq (bm s) (bf x)).name,row:=(aq (bm s) (bf x)).rows.getD (max (aj (aq (bm s) (bf x)).rows x.id) 0).toNat default,attr:=x.attr,value:=ofV x.value } ∧ eq s x = cn (aq (bm s) (bf x)) x.id x.attr (ofV x.value):=by simp [gr,eq,h,h1,h',h2,h3]
end
section
open Go.Proofs
theorem afa:am Tryz.prog 15:=wgx Tryz.func15
theorem c15 (l:List Chg) (h:j8 l):ay Tryz.prog 15 [pP (sm l)] (bu [lq (gu [] l),pI (ed [] l)]):=by
 refine av (nt:=29) a8 Tryz.func15 rfl rfl l9 ?_;refine jw 0 rfl (fun hn=>?_);refine sx7 ?_;refine m9 0 ?_;refine w_4 ?_;refine m9 1 ?_;refine w_7 ?_
 refine az (ι:=(Nat × DB)) ⟨[(0,some _),(2,some _),(4,some _)],[(0,some _)]⟩ ⟨⟨c9,c9,c9,trivial⟩,⟨u9,trivial⟩⟩ (fun x=>⟨[(5,some (vI x.1))],[(1,some (.box [.p (pw x.2)]))]⟩) (fun x=>x.1 ≤ l.length ∧ dbV x.2 ∧ ed x.2 (l.drop x.1) = ed [] l ∧ gu x.2 (l.drop x.1) = gu [] l) (fun x=>l.length - x.1) ((0,[])) (⟨Nat.zero_le _,my,rfl,rfl⟩) ⟨⟨zy,trivial⟩,⟨⟨_,rfl,⟨ar,trivial⟩⟩,trivial⟩⟩ ?_
 rintro ⟨i,d⟩ ⟨hi,hd,hE,hD⟩
 dsimp only at hi hE hD ⊢
 refine w_8 ?_;refine a7 _ rfl (fun r0=>?_) (fun r0=>?_)
 ·
  have h0:=ae r0
  try simp only [ty] at h0
  refine w_4 ?_;refine ap (E:=au) a8 ag [0,1,2,3,4,5,6,7,8,9,10,11] ?_;refine w_5 ?_;refine qcx agm (c46 d (l.getD i default) hd (h i (by omega))) ?_;refine w_3 ?_;refine m9 2 ?_
  refine w_3 ?_;refine ⟨by kernel_rfl, ?_⟩;refine w_6 ?_;refine a7 _ rfl (fun r1=>?_) (fun r1=>?_)
  ·
   have h1:=r1
   have h1:=aa (b7 h1)
   try simp only [ty] at h1
   have hz:¬ ah d (l.getD i default) = 0:=h1
   refine w_8 ?_;refine ⟨.inr rfl, ?_⟩
   obtain ⟨g1,g2⟩:=abm (d:=d) (by omega) hz
   rw [← hD,← hE,g1,g2]
   exact f9 rfl rfl (⟨CoC.agg ⟨ar,trivial⟩,CoC.refl _,trivial⟩)
  have h1:=r1
  have h1:=ae (b8 h1)
  try simp only [ty] at h1
  have hz:ah d (l.getD i default) = 0:=h1
  refine dz ?_;refine ⟨(i + 1,f8 d (l.getD i default)), ?_, ?_, ?_⟩
  · obtain ⟨g1,g2⟩:=aai (by omega) hz
    exact ⟨by dsimp only;omega,a1m hd,g1 ▸ hE,g2 ▸ hD⟩
  · first | omega | (dsimp only;omega)
  exact ⟨⟨zy,c9,c9,c9,trivial⟩,⟨u9,u9,trivial⟩⟩
 have h0:=aa r0
 try simp only [ty] at h0
 obtain rfl:i = l.length:=by omega
 rw [List.drop_length] at hE hD
 refine w_8 ?_;refine ⟨.inr rfl, ?_⟩
 rw [← hD,← hE]
 exact f9 rfl rfl (CoL.refl _)
theorem aah:am Tryz.prog 50:=wgx Tryz.func50
theorem c50 (s:Stt) (h:s.done.flatten.length ≤ 68719476736) (h2:s.now.length ≤ 68719476736) (hok:j8 (jr s)):ay Tryz.prog 50 [s.pc] (bu [lq (bm s)]):=by
 refine av (nt:=15) a8 Tryz.func50 rfl rfl l9 ?_;refine sx7 ?_;refine m9 0 ?_;refine m9 1 ?_;refine w_2 ?_;refine ap (E:=au) a8 ag [0,1,2,3,4,5,6,7,8,9,10,11] ?_;refine qy ?_
 refine al rfl rfl rfl rfl rfl rfl aab ((afx s h).swap 9 100) (bg.refl _) trivial rfl rfl ?_;refine w_2 ?_;refine ra 2 true rfl rfl rfl rfl rfl rfl ?_
 refine al rfl rfl rfl rfl rfl rfl afa (ay.eat (hcs:=[.one (.ref 100 (jr s).length)]) (o1:=[(100, .arr true 11 49 (jr s).length (lf Chg.c (jr s)))]) (c15 (jr s) hok) rfl (by (repeat' apply And.intro) <;> first | trivial | rfl) (CoL.refl _)) (⟨congrArg (HV.ref 100) (by simp [jr]),trivial⟩) ⟨⟨_,rfl,kb _ (fun h=>h) rfl (fun i j hi hj=>CoP.refl _)⟩,trivial⟩ rfl rfl ?_
 refine w_3 ?_;refine m9 3 ?_;refine w_3 ?_;refine ⟨by kernel_rfl, ?_⟩;refine w_5 ?_
 exact hx8 rfl rfl rfl (CoL.refl _)
theorem afd:am Tryz.prog 26:=wgx Tryz.func26
theorem c26 (a b:List Chg) (ha:j8 a) (hb:j8 b):ay Tryz.prog 26 [pP (sm a),pP (sm b)] (bu [pB (decide (a = b))]):=by
 refine av (nt:=69) a8 Tryz.func26 rfl rfl l9 ?_;refine jw 0 rfl (fun hn=>?_);refine sv ?_;refine a7 _ rfl (fun r0=>?_) (fun r0=>?_)
 ·
  have h0:=r0
  have h0:=aa (b7 h0)
  try simp only [ty] at h0
  refine w_4 ?_
  exact hx8 rfl rfl rfl (⟨ccb (decide_eq_false (fun e=>h0 (by rw [e]))).symm,trivial⟩)
 have h0:=r0
 have h0:=ae (b8 h0)
 try simp only [ty] at h0
 refine ew ?_;refine df (ι:=Unit) ⟨[],[]⟩ ⟨trivial,trivial⟩ (fun _i=>⟨[],[]⟩) (fun _i=>a = b) ?_ ?_
 ·
  refine w_5 ?_
  refine az (ι:=Nat) ⟨[(0,some _),(1,some _)],[]⟩ ⟨⟨c9,c9,trivial⟩,trivial⟩ (fun i=>⟨[(5,some (vI i))],[]⟩) (fun i=>i ≤ a.length ∧ ∀ j,j < i → a.getD j default = b.getD j default) (fun i=>a.length - i) (0) (⟨Nat.zero_le _,dy⟩) ⟨⟨zy,trivial⟩,trivial⟩ ?_
  rintro i ⟨hi,hI⟩
  refine w_8 ?_;refine a7 _ rfl (fun r1=>?_) (fun r1=>?_)
  ·
   have h1:=ae r1
   try simp only [ty] at h1
   refine w_4 ?_;refine ap (E:=au) a8 ag [0,1,2,3,4,5,6,7,8,9,10,11] ?_;refine w_8 ?_;refine m9 0 ?_;refine m9 1 ?_;refine w_3 ?_;refine ⟨by kernel_rfl, ?_⟩;refine w_8 ?_
   refine bo rfl rfl (fun r2=>?_) (fun r2=>?_)
   ·
    have h2:=r2
    have h2:=aa (b7 h2)
    try simp only [ty] at h2
    (iterate 5 refine k9 (gtf r2) ?_);refine rq rfl rfl rfl rfl rfl ?_ (hp:=r2);refine qy ?_;(iterate 5 refine k9 rfl ?_);refine w_2 ?_;(iterate 5 refine k9 rfl ?_);refine w_2 ?_;(iterate 6 refine k9 rfl ?_)
    refine w_2 ?_;(iterate 6 refine k9 rfl ?_);refine w_2 ?_;refine a7 _ rfl (fun _=>?_) (fun e=>by cases e);refine w_5 ?_;refine ⟨.inr rfl, ?_⟩
    have hN:¬ a.getD i default = b.getD i default:=fun e=>by rw [Chg.eq_iff] at e;simp_all
    exact f9 rfl rfl (⟨ccb (decide_eq_false (fun e=>hN (by subst e;rfl))).symm,trivial⟩)
   have h2:=r2
   have h2:=ae (b8 h2)
   try simp only [ty] at h2
   (iterate 5 refine qy ?_ (hg:=(gff r2)));refine w_2 ?_;refine bo rfl rfl (fun r3=>?_) (fun r3=>?_)
   ·
    have h3:=r3
    have h3:=bw r2 h3
    have h3:=aa (b7 h3)
    try simp only [ty] at h3
    (iterate 5 refine k9 (gtf r3) ?_);refine rq rfl rfl rfl rfl rfl ?_ (hp:=r3);refine qy ?_;(iterate 5 refine k9 rfl ?_);refine w_2 ?_;(iterate 6 refine k9 rfl ?_);refine w_2 ?_;(iterate 6 refine k9 rfl ?_)
    refine w_2 ?_;refine a7 _ rfl (fun _=>?_) (fun e=>by cases e);refine w_5 ?_;refine ⟨.inr rfl, ?_⟩
    have hN:¬ a.getD i default = b.getD i default:=fun e=>by rw [Chg.eq_iff] at e;simp_all
    exact f9 rfl rfl (⟨ccb (decide_eq_false (fun e=>hN (by subst e;rfl))).symm,trivial⟩)
   have h3:=r3
   have h3:=bw r2 h3
   have h3:=ae (b8 h3)
   try simp only [ty] at h3
   (iterate 5 refine qy ?_ (hg:=(gff r3)));refine w_2 ?_;refine bo rfl rfl (fun r4=>?_) (fun r4=>?_)
   ·
    have h4:=r4
    have h4:=bw r3 h4
    have h4:=aa (b7 h4)
    try simp only [ty] at h4
    (iterate 5 refine k9 (gtf r4) ?_);refine rq rfl rfl rfl rfl rfl ?_ (hp:=r4);refine qy ?_;(iterate 6 refine k9 rfl ?_);refine w_2 ?_;(iterate 6 refine k9 rfl ?_);refine w_2 ?_
    refine a7 _ rfl (fun _=>?_) (fun e=>by cases e);refine w_5 ?_;refine ⟨.inr rfl, ?_⟩
    have hN:¬ a.getD i default = b.getD i default:=fun e=>by rw [Chg.eq_iff] at e;simp_all
    exact f9 rfl rfl (⟨ccb (decide_eq_false (fun e=>hN (by subst e;rfl))).symm,trivial⟩)
   have h4:=r4
   have h4:=bw r3 h4
   have h4:=ae (b8 h4)
   try simp only [ty] at h4
   (iterate 5 refine qy ?_ (hg:=(gff r4)));refine w_2 ?_;refine bo rfl rfl (fun r5=>?_) (fun r5=>?_)
   ·
    have h5:=r5
    have h5:=bw r4 h5
    (iterate 6 refine k9 (gtf r5) ?_);refine rq rfl rfl rfl rfl rfl ?_ (hp:=r5);refine qy ?_;(iterate 6 refine k9 rfl ?_);refine w_2 ?_;refine a7 _ rfl (fun _=>?_) (fun e=>by cases e);refine w_5 ?_
    refine ⟨.inr rfl, ?_⟩
    have hN:¬ a.getD i default = b.getD i default:=fun e=>by rw [Chg.eq_iff] at e;simp_all
    exact f9 rfl rfl (⟨ccb (decide_eq_false (fun e=>hN (by subst e;rfl))).symm,trivial⟩)
   have h5:=r5
   have h5:=bw r4 h5
   (iterate 4 refine qy ?_ (hg:=(gff r5)));refine qcx aa3 (c47 (a.getD i default).table (b.getD i default).table (ha i (by omega)).1 (hb i (by omega)).1) ?_ (hg:=(gff r5));refine qy ?_ (hg:=(gff r5));refine w_2 ?_
   refine bo rfl rfl (fun r6=>?_) (fun r6=>?_)
   ·
    have h6:=r6
    have h6:=bw r5 h6
    have h6:=b7 h6
    (iterate 6 refine k9 (gtf r6) ?_);refine rq rfl rfl rfl rfl rfl ?_ (hp:=r6);refine ca ?_;refine a7 _ rfl (fun _=>?_) (fun e=>by cases e);refine w_5 ?_;refine ⟨.inr rfl, ?_⟩
    have hN:¬ a.getD i default = b.getD i default:=fun e=>by rw [Chg.eq_iff] at e;simp_all
    exact f9 rfl rfl (⟨ccb (decide_eq_false (fun e=>hN (by subst e;rfl))).symm,trivial⟩)
   have h6:=r6
   have h6:=bw r5 h6
   have h6:=b8 h6
   (iterate 4 refine qy ?_ (hg:=(gff r6)));refine qcx y7 (c54 (a.getD i default).row (b.getD i default).row (ha i (by omega)).2.1 (hb i (by omega)).2.1) ?_ (hg:=(gff r6));refine qy ?_ (hg:=(gff r6));refine w_2 ?_
   refine a7 _ rfl (fun r7=>?_) (fun r7=>?_)
   ·
    have h7:=r7
    have h7:=bw r6 h7
    have h7:=b7 h7
    refine w_5 ?_;refine ⟨.inr rfl, ?_⟩
    have hN:¬ a.getD i default = b.getD i default:=fun e=>by rw [Chg.eq_iff] at e;simp_all
    exact f9 rfl rfl (⟨ccb (decide_eq_false (fun e=>hN (by subst e;rfl))).symm,trivial⟩)
   have h7:=r7
   have h7:=bw r6 h7
   have h7:=b8 h7
   have hN:a.getD i default = b.getD i default:=Chg.eq_iff.2 (by simp_all [Val.eq_iff,and_assoc])
   refine w_6 ?_;refine ⟨i + 1, ?_, ?_, ?_⟩
   · exact ⟨by omega,dr hI (hN)⟩
   · first | omega | (dsimp only;omega)
   exact ⟨⟨zy,c9,c9,trivial⟩,trivial⟩
  have h1:=aa r1
  try simp only [ty] at h1
  refine cw ?_;refine ⟨(), ?_, ?_⟩
  · exact ut (by omega) fun j hj=>hI j (by omega)
  exact ⟨trivial,trivial⟩
 rintro _ hj
 refine w_4 ?_
 exact hx8 rfl rfl rfl (⟨ccb (decide_eq_true hj).symm,trivial⟩)
end
section
open Go.Proofs
theorem a5m:am Tryz.prog 36:=wgx Tryz.func36
theorem c36 (x:Rcp) (n:Nat) (hn:n ≤ 8) (hx:x.rows.length ≤ 68719476736):ay Tryz.prog 36 [x.pc,pI n] (bu [(a8r x n).pc]):=by
 refine av (nt:=67) a8 Tryz.func36 rfl rfl l9 ?_;refine sx7 ?_;refine m9 0 ?_;refine m9 1 ?_;refine w_3 ?_;refine m9 2 ?_;refine m9 3 ?_;refine qy ?_;refine afm rfl rfl rfl rfl rfl ?_
 refine ra 4 true rfl rfl rfl rfl rfl rfl ?_;refine qy ?_;refine m9 5 ?_;refine w_2 ?_;refine f4 5 1 rfl rfl rfl rfl rfl ?_;refine w_6 ?_
 refine ct 5 2 100 true 2 45 (lf Row.c (dg x n)) (by decide) rfl rfl (CoP.sl rfl (.inr rfl) (fun h=>h) (fun i j hi _=>absurd hi (Nat.not_lt_zero i))) (.inr rfl) rfl rfl ?_
 refine az (ι:=Nat) ⟨[(1,some _),(2,some _),(4,some _),(5,some _)],[(0,some _),(1,some _)]⟩ ⟨⟨c9,c9,c9,c9,trivial⟩,⟨u9,u9,trivial⟩⟩ (fun i=>⟨[(6,some (vI i))],[(5,some (.box [.p (.raw (.string ⟨#[114]⟩)), .p (it (ij.take n)), .ref 100 i])),(100,some (.arr true 2 45 i (lf Row.c (dg x n))))]⟩) (fun i=>i ≤ x.rows.length) (fun i=>x.rows.length - i) (0) (Nat.zero_le _) ⟨⟨zy,trivial⟩,⟨⟨_,rfl,⟨CoH.refl _,ahr hn,CoH.refl _,trivial⟩⟩,u9,trivial⟩⟩ ?_
 rintro i hi
 refine w_9 ?_;refine a7 _ rfl (fun r0=>?_) (fun r0=>?_)
 ·
  have h0:=ae r0
  try simp only [ty] at h0
  refine w_4 ?_
  have hgl:=abt (g:=x.gap) (i:=i)
  refine dz ?_;refine m9 6 ?_;refine w_8 ?_
  refine ct 6 1 101 true 3 47 (lf Val.c (ge (x.rows.getD i default) n)) (by decide) rfl rfl (CoP.sl rfl (.inr rfl) (fun h=>h) (fun i j hi _=>absurd hi (Nat.not_lt_zero i))) (.inr rfl) rfl rfl ?_
  refine az (ι:=Nat) ⟨[(1,some _),(2,some _),(4,some _),(5,some _),(6,some _),(7,some _)],[(5,some _),(100,some _),(0,some _),(1,some _)]⟩ ⟨⟨c9,c9,c9,c9,c9,c9,trivial⟩,⟨u9,u9,u9,u9,trivial⟩⟩ (fun k=>⟨[(8,some (vI k))],[(6,some (.box [.p (.raw (.int .i64 (1 + (i:Int) * (1 + (x.gap.toNat:Int) % 3)))), .ref 101 k])),(101,some (.arr true 3 47 k (lf Val.c (ge (x.rows.getD i default) n))))]⟩) (fun k=>k ≤ n) (fun k=>n - k) (0) (Nat.zero_le _) ⟨⟨zy,trivial⟩,⟨u9,u9,trivial⟩⟩ ?_
  rintro k hk
  refine w_7 ?_;refine a7 _ rfl (fun r1=>?_) (fun r1=>?_)
  ·
   have h1:=ae r1
   try simp only [ty] at h1
   refine w_9 ?_;refine wv 0 2 rfl rfl (fun hb=>?_);refine dz ?_;refine a7 _ rfl (fun r2=>?_) (fun r2=>?_)
   ·
    have h2:=ae r2
    try simp only [ty] at h2
    refine qc ?_;refine ap (E:=au) a8 ag [0,1,2,3,4,5,6,7] ?_;refine w_3 ?_;refine rc rfl rfl rfl rfl rfl rfl nk (c49 _ (by omega)) (CoL.refl _) rfl rfl ?_;refine m9 7 ?_
    refine ra 8 true rfl rfl rfl rfl rfl rfl ?_;refine w_3 ?_;refine ⟨by kernel_rfl, ?_⟩;refine w_5 ?_;refine ⟨k + 1, ?_, ?_, ?_⟩
    · show k + 1 ≤ _
      omega
    · first | omega | (dsimp only;omega)
    exact ⟨⟨zy,c9,c9,c9,c9,c9,c9,trivial⟩,⟨u9,⟨_,rfl,(fc (fun h=>h) (by first | (intro j hj;rw [pl (by omega)];revert j;exact lt3 (CoP.refl _) (CoP.refl _) (CoP.refl _)) | (intro j hj;rw [pl (by omega),vf (by omega)];revert j;exact lt3 (CoP.refl _) (CoP.refl _) (CoP.refl _))))⟩,u9,u9,u9,u9,trivial⟩⟩
   have h2:=aa r2
   try simp only [ty] at h2
   refine ew ?_;refine ap (E:=au) a8 ag [0,1,2,3,4,5,6,7] ?_;refine w_3 ?_;refine rc rfl rfl rfl rfl rfl rfl nk (c49 _ (by omega)) (CoL.refl _) rfl rfl ?_;refine m9 9 ?_
   refine ra 10 true rfl rfl rfl rfl rfl rfl ?_;refine w_3 ?_;refine ⟨by kernel_rfl, ?_⟩;refine w_5 ?_;refine ⟨k + 1, ?_, ?_, ?_⟩
   · show k + 1 ≤ _
     omega
   · first | omega | (dsimp only;omega)
   exact ⟨⟨zy,c9,c9,c9,c9,c9,c9,trivial⟩,⟨u9,⟨_,rfl,(fc (fun h=>h) (by first | (intro j hj;rw [pl (by omega)];revert j;exact lt3 (CoP.refl _) (CoP.refl _) (CoP.refl _)) | (intro j hj;rw [pl (by omega),vf (by omega)];revert j;exact lt3 (CoP.refl _) (CoP.refl _) (CoP.refl _))))⟩,u9,u9,u9,u9,trivial⟩⟩
  have h1:=aa r1
  try simp only [ty] at h1
  obtain rfl:k = n:=by omega
  refine cw ?_;refine f4 6 1 rfl rfl rfl rfl rfl ?_;refine w_4 ?_;refine m9 11 ?_;refine ra 12 true rfl rfl rfl rfl rfl rfl ?_;refine w_8 ?_;refine ⟨i + 1, ?_, ?_, ?_⟩
  · show i + 1 ≤ _
    omega
  · first | omega | (dsimp only;omega)
  exact ⟨⟨zy,c9,c9,c9,c9,trivial⟩,⟨u9,⟨_,rfl,(fc (fun h=>h) (by intro j hj;rw [aad (by omega)];revert j;exact lt2 (CoP.refl _) (CoP.sl a15 (.inl rfl) (fun h=>h) (fun _ _ _ _=>CoP.refl _))))⟩,u9,u9,trivial⟩⟩
 have h0:=aa r0
 try simp only [ty] at h0
 obtain rfl:i = x.rows.length:=by omega
 refine w_6 ?_
 exact hx8 rfl rfl rfl (⟨CoC.agg ⟨CoP.refl _,CoP.refl _,CoP.sl a1i (.inl rfl) (fun h=>h) (fun _ _ _ _=>CoP.refl _),trivial⟩,trivial⟩)
theorem a2e:am Tryz.prog 30:=wgx Tryz.func30
theorem c30 (x:Opn) (hx:x.t.rows.length ≤ 68719476736):ay Tryz.prog 30 [x.pc] (bu [(ep x).pc]):=by
 refine av (nt:=16) a8 Tryz.func30 rfl rfl l9 ?_;refine sx7 ?_;refine m9 0 ?_;refine m9 1 ?_;refine dz ?_
 refine rc rfl rfl rfl rfl rfl rfl a5m (c36 x.t (x.t.attrs.toNat % 4) (by omega) hx) (⟨CoC.refl _,cci (by omega),trivial⟩) rfl rfl ?_;refine m9 2 ?_;refine w_5 ?_;refine qcx oz (c35 _) ?_;refine w_8 ?_
 exact hx8 rfl rfl rfl (CoL.refl _)
end
section
open Go.Proofs
theorem ag4:am Tryz.prog 41:=wgx Tryz.func41
theorem c41 (s:Stt) (x:Opn) (hs:a0b s) (hx:gw x):ay Tryz.prog 41 [s.pc,x.pc] (bu [(gr s x).pc,pI (eq s x)]):=by
 refine av (nt:=108) a8 Tryz.func41 rfl rfl l9 ?_
 have hV:=hs.V
 have hlv:=hx.lv
 have hlr:=hx.lr
 refine sx7 ?_;refine m9 0 ?_;refine m9 1 ?_;refine m9 2 ?_;refine w_5 ?_;refine qcx aah (c50 s hs.ld hs.ln hs.ok) ?_;refine m9 3 ?_;refine dz ?_;refine a7 _ rfl (fun r0=>?_) (fun r0=>?_)
 ·
  have h0:=ae r0
  try simp only [ty] at h0
  refine i5 ?_;refine ap (E:=au) a8 ag [0,1,2,3,4,5,6,7,8,9,10] ?_;refine qy ?_;refine qcx oz (c35 _) ?_;refine qy ?_;refine qcx a2e (c30 x hlr) ?_;refine w_3 ?_
  refine qcx a2e (c30 x hlr) ?_;refine qcx a9k (c59 _ _) ?_;refine w_3 ?_;refine ⟨by kernel_rfl, ?_⟩;refine ej ?_;refine ⟨.inr rfl, ?_⟩
  have hc:=a90 (s:=s) (x:=x) (by omega)
  rw [hc.1,hc.2]
  exact f9 rfl rfl (⟨CoC.agg ⟨CoP.refl _,CoP.refl _,CoP.refl _,CoP.refl _,CoP.refl _,CoP.refl _,ar,CoP.refl _,CoP.refl _,CoP.refl _,CoP.refl _,trivial⟩,CoC.refl _,trivial⟩)
 have h0:=aa r0
 try simp only [ty] at h0
 refine w_2 ?_;refine ap (E:=au) a8 ag [0,1,2,3,4] ?_;refine w_2 ?_;refine qcx oz (c35 _) ?_;refine qcx xq (c60 _ _) ?_;refine w_2 ?_;refine ⟨by kernel_rfl, ?_⟩;refine w_6 ?_
 refine a7 _ rfl (fun r1=>?_) (fun r1=>?_)
 ·
  have h1:=ae r1
  try simp only [ty] at h1
  refine w_7 ?_;refine ⟨.inr rfl, ?_⟩
  have hc:=a1j (s:=s) (x:=x) (by omega) (by assumption)
  rw [hc.1,hc.2]
  exact f9 rfl rfl (⟨CoC.agg ⟨CoP.refl _,CoP.refl _,CoP.refl _,ar,ar,CoP.refl _,ar,CoP.refl _,CoP.refl _,CoP.refl _,CoP.refl _,trivial⟩,CoC.refl _,trivial⟩)
 have h1:=aa r1
 try simp only [ty] at h1
 have hix:¬ bv (bm s) (bf x) < 0:=h1
 have htb:=pg hix
 refine w_8 ?_;refine m9 4 ?_;refine dz ?_;refine a7 _ rfl (fun r2=>?_) (fun r2=>?_)
 ·
  have h2:=ae r2
  try simp only [ty] at h2
  refine i5 ?_;refine ap (E:=au) a8 ag [0,1,2,3,4,5,6,7,8,9] ?_;refine w_2 ?_;refine qcx xe (c33 x hlv) ?_;refine qcx a21 (c61 (aq (bm s) (bf x)) (ec x)) ?_;refine w_3 ?_
  refine m9 5 ?_;refine w_3 ?_;refine ⟨by kernel_rfl, ?_⟩;refine i5 ?_;refine ap (E:=au) a8 ag [0,1,2,3,4,5,6,7] ?_;refine w_3 ?_;refine qcx xe (c33 x hlv) ?_;refine w_5 ?_
  refine ⟨by kernel_rfl, ?_⟩;refine ej ?_;refine ⟨.inr rfl, ?_⟩
  have hc:=a8k (s:=s) (x:=x) (by omega) hix
  rw [hc.1,hc.2]
  exact f9 rfl rfl (⟨CoC.agg ⟨CoP.refl _,CoP.refl _,CoP.refl _,ar,ar,CoP.refl _,CoP.refl _,CoP.refl _,CoP.refl _,CoP.refl _,CoP.refl _,trivial⟩,CoC.refl _,trivial⟩)
 have h2:=aa r2
 try simp only [ty] at h2
 refine w_6 ?_;refine qcx sb (c62 (aq (bm s) (bf x)) x.id) ?_;refine gk ?_;refine a7 _ rfl (fun r3=>?_) (fun r3=>?_)
 ·
  have h3:=r3
  have h3:=b7 h3
  have hfd:¬ 0 ≤ aj (aq (bm s) (bf x)).rows x.id:=aa h3
  refine w_7 ?_;refine ⟨.inr rfl, ?_⟩
  have hc:=a4f (s:=s) (x:=x) (by omega) (by omega) hix hfd
  rw [hc.1,hc.2]
  exact f9 rfl rfl (⟨CoC.agg ⟨CoP.refl _,CoP.refl _,CoP.refl _,ar,ar,CoP.refl _,ar,CoP.refl _,CoP.refl _,CoP.refl _,CoP.refl _,trivial⟩,CoC.refl _,trivial⟩)
 have h3:=r3
 have h3:=b8 h3
 have hfd:0 ≤ aj (aq (bm s) (bf x)).rows x.id:=ae h3
 have hra:=il hfd
 have hra2:max (aj (aq (bm s) (bf x)).rows x.id) 0 < (((bm s).getD (bv (bm s) (bf x)).toNat default).rows.length:Int):=(by show _ < ((aq (bm s) (bf x)).rows.length:Int);omega)
 refine w_9 ?_;refine a7 _ rfl (fun r4=>?_) (fun r4=>?_)
 ·
  have h4:=ae r4
  try simp only [ty] at h4
  refine i5 ?_;refine ap (E:=au) a8 ag [0,1,2,3,4,5,6,7,8,9] ?_;refine qc ?_;refine ⟨by kernel_rfl, ?_⟩;refine ej ?_;refine ⟨.inr rfl, ?_⟩
  have hc:=a9a (s:=s) (x:=x) (by omega) hix hfd
  rw [hc.1,hc.2]
  exact f9 rfl rfl (⟨CoC.agg ⟨CoP.refl _,CoP.refl _,CoP.refl _,ar,ar,CoP.refl _,CoP.refl _,CoP.refl _,CoP.refl _,CoP.refl _,CoP.refl _,trivial⟩,CoC.refl _,trivial⟩)
 have h4:=aa r4
 try simp only [ty] at h4
 refine w_2 ?_;refine ap (E:=au) a8 ag [0,1,2,3,4,5,6,7,8,9,10,11,12,13,14,15] ?_;refine w_8 ?_;refine qcx nk (c49 _ (Int.natCast_nonneg _)) ?_
 refine qcx a1y (c63 (aq (bm s) (bf x)) x.id x.attr (ofV x.value)) ?_;refine w_3 ?_;refine m9 6 ?_;refine w_3 ?_;refine ⟨by kernel_rfl, ?_⟩;refine i5 ?_
 refine ap (E:=au) a8 ag [0,1,2,3,4,5,6,7,8,9,10,11,12,13,14,15] ?_;refine qc ?_;refine qcx nk (c49 _ (Int.natCast_nonneg _)) ?_;refine w_5 ?_;refine ⟨by kernel_rfl, ?_⟩
 refine ej ?_;refine ⟨.inr rfl, ?_⟩
 have hc:=a8q (s:=s) (x:=x) (by omega) (by omega) (by omega) hix hfd
 rw [hc.1,hc.2]
 exact f9 rfl rfl (⟨CoC.agg ⟨CoP.refl _,CoP.refl _,CoP.refl _,ar,ar,CoP.refl _,CoP.refl _,CoP.refl _,CoP.refl _,CoP.refl _,CoP.refl _,trivial⟩,CoC.refl _,trivial⟩)
end
end Go.Hx

/- A part of the proof: W19 W20 W21 Sp8 W22 W23 W24 W25. -/
import Derived.Test.YtdcdbghdgjlhhaaGreatOx13
import Derived.Test.YtdcdbghdgjlhhaaGreatOx16
import Derived.Test.YtdcdbghdgjlhhaaGreatOx20
import Derived.Test.YtdcdbghdgjlhhaaGreatOx23
set_option linter.all false
set_option maxRecDepth 100000
set_option maxHeartbeats 1000000
namespace Go.Hx
section
open Go.Proofs Go.Lib Go.RowKit
set_option maxHeartbeats 4000000 in
set_option maxRecDepth 100000 in
theorem a4t (k:Nat) (hk:0 < k) (hbig:k * 32 ≤ 140737488355328) (w:World) (ad:Option Addr) :
 Calls Tryz.prog 110 #[.slice ad 0 0, .int .i64 k] w fun e w'=>∃ G ROW,e = .returned (.slice (some ⟨w.heap.size,0,none⟩) 0 G) ∧ G ≤ maxLen ∧ w' = w.drew.alloc (.cells ROW 45) ∧ ROW.size = G * 2:=by
 obtain ⟨i0,z,hi0,hz0,hzs,hzb,hzc⟩:∃ i0 z,Tryz.prog.info? 45 = some i0 ∧ i0.zero = some z ∧ i0.size = 2 ∧ i0.bytes = 32 ∧ z.cells.size = 2:=by
  have h:(Tryz.prog.info? 45).map (fun i=>(i.zero.map (fun z=>z.cells.size),i.size,i.bytes)) = some (some 2,2,32):=by kernel_rfl
  cases hq:Tryz.prog.info? 45 with
  | none=>rw [hq] at h;cases h
  | some i0 =>
   rw [hq] at h
   cases hz:i0.zero with
   | none=>simp [hz] at h
   | some z=>simp [hz] at h;exact ⟨i0,z,rfl,hz,h.2.1,h.2.2,h.1⟩
 have hc:0 + k ≤ maxLen:=by unfold maxLen;omega
 have hold:(Builtin.firstCells i0.size 0 (.slice ad 0 0)).run Tryz.prog w.drew = .ok (([]:List Value)).toArray w.drew:=by
  cases ad with
  | none=>exact run_firstCells_none w.drew _ _ _ _
  | some a=>exact run_firstCells_some w.drew _ 0 a 0 0 [] (by simp) (fun j v hj=>by simp at hj)
 obtain ⟨G,hG⟩:∃ G,G = grownCap w (0 + k) 0 45:=⟨_,rfl⟩
 have hGn:0 + k ≤ G:=by rw [hG];exact grownCap_ge w _ _ _
 have hGm:G ≤ maxLen:=by rw [hG];exact grownCap_le_maxLen w (0 + k) 0 45 hc
 obtain ⟨ROW,hROW⟩:∃ ROW:Array Value,ROW = ([]:List Value).toArray ++ Builtin.zeroCells z.cells k ++ Builtin.zeroCells z.cells (G - (0 + k)):=⟨_,rfl⟩
 have hrz:(Builtin.append_ #[40,3] 40 #[.slice ad 0 0, .int .i64 (k:Int)]).run Tryz.prog w = .ok (.slice (some ⟨w.heap.size,0,none⟩) k G) (w.drew.alloc (.cells ROW 45)):=by
  have h:=Lib.run_append_grow_zeros w 40 3 40 45 i0 z .i64 .i64 Tryz.underlying40 Tryz.underlying3 hi0 hz0 ad 0 0 [] hold k hk (by omega) (by omega) (by unfold maxLen at hc;omega) (by rw [hzb];omega) (by rw [hzb,Nat.zero_add];exact growslice_fits (by omega) hbig)
  rw [← hG,← hROW] at h
  rw [h]
  simp
 have hRs:ROW.size = G * 2:=by
  rw [hROW]
  simp only [Array.size_append,List.size_toArray,List.length_nil,size_zeroCells,hzc]
  omega
 have mixed:=ag
 have hcM:G ≤ 9223372036854775807:=by unfold maxLen at hGm;omega
 have hk0:¬ ((k:Int) < 0):=by omega
 have hk1:(0:Int) < (k:Int):=by omega
 have hw1:IntKind.i64.wrap (k:Int) = (k:Int):=by rw [IntKind.wrap_i64];omega
 clear hG hROW hold
 rcases ad with _ | ⟨ab,ao,asp⟩
 all_goals go_enter Tryz.func110,Tryz.ntmps110
 all_goals go_wp2_with (at_builtin;refine Lib.wpList_append_run _ rfl _ _ _ _ rfl _ _ rfl rfl _ _ hrz ?_)
 all_goals go_ret
 all_goals first | exact ⟨G,ROW,rfl,hGm,rfl,hRs⟩ | exact ⟨G,rfl,hGm,ROW,rfl,hRs⟩
theorem a6m (w:World) (ad:Option Addr):Calls Tryz.prog 110 #[.slice ad 0 0, .int .i64 0] w fun e w'=>e = .returned (.slice ad 0 0) ∧ w' = w:=by
 have mixed:=ag
 go_enter Tryz.func110,Tryz.ntmps110
 go_wp2
 go_ret
 exact ⟨rfl,rfl⟩
theorem aha (k a:Nat) (hk:k ≤ 68719476736) (F:Nat → Nat → PV) :
 br Tryz.prog 110 [.one (.p (js (.slice none 0 0))), .one (.p (.raw (.int .i64 k)))] [] (.v (.one (.ref a 0))) [(a, .arr true 2 45 0 F)] []:=by
 refine abx (by omega) fun w ad=>?_
 rcases Nat.eq_zero_or_pos k with rfl | hk0
 · refine (a6m w ad).mono ?_
   rintro e w' ⟨rfl,rfl⟩
   exact ⟨_,rfl,Below.refl _ _, .inl rfl⟩
 refine (a4t k hk0 (by omega) w ad).mono ?_
 rintro e w' ⟨G,ROW,rfl,hG,rfl,hR⟩
 refine ⟨_,rfl,⟨rfl,rfl,rfl, ?_,fun q hq=>a1t w.drew _ hq,Nat.le_succ _⟩, .inr ⟨⟨by simp, .inr ⟨_,G,ROW,rfl,Nat.zero_le _,heap_alloc_new w.drew _,Nat.zero_le _,hG,hR,by simp⟩⟩,fun g hg=>?_⟩⟩
 · show _ ≤ (w.heap.push _).size
   rw [Array.size_push];omega
 have:w.heap.size = g:=by simpa [c3] using hg
 omega
end
section
open Go.Proofs
def rwC (l:List Row):Nat → PV
 | 0=>rows l
 | _=>.any
abbrev aiq (ls:List (List Row)):PV:=psl 1 rwC ls
theorem ae4:am Tryz.prog 110:=wgx Tryz.func110
theorem ac5 {α:Type} [Inhabited α] {s n k':Nat} {k:Int} {cl:Bool} {c:α → Nat → PV} {l:List α} (hn:n = l.length) (h:k.toNat = k'):CoP (.sl (oi n (some k)) s cl (tc (lf c l) (some k))) (psl s c (l.drop k')):=by
 subst h hn;exact aem
theorem afh:am Tryz.prog 99:=wgx Tryz.func99
theorem c99 (ls:List (List Row)) (h:ls.flatten.length ≤ 68719476736):ay Tryz.prog 99 [pP (aiq ls)] (bu [pP (rows ls.flatten)]):=by
 refine av (nt:=36) a8 Tryz.func99 rfl rfl l9 ?_;refine dz ?_;refine jw 0 rfl (fun hn=>?_);refine w_6 ?_
 refine az (ι:=Nat) ⟨[(0,some _),(9,some _),(10,some _)],[]⟩ ⟨⟨c9,c9,c9,trivial⟩,trivial⟩ (fun i=>⟨[(3,some (vI (ls.take i).flatten.length)),(11,some (vI i))],[]⟩) (fun i=>i ≤ ls.length) (fun i=>ls.length - i) (0) (Nat.zero_le _) ⟨⟨zy,zy,trivial⟩,trivial⟩ ?_
 rintro i hi
 refine w_5 ?_;refine a7 _ rfl (fun r0=>?_) (fun r0=>?_)
 ·
  have h0:=ae r0
  try simp only [ty] at h0
  have hts:(ls.take (i + 1)).flatten.length = (ls.take i).flatten.length + (ls.getD ((i:Nat):Int).toNat default).length:=by rw [tsf _ _ (by omega),List.length_append];rfl
  have hfl:(ls.take i).flatten.length + (ls.getD ((i:Nat):Int).toNat default).length ≤ ls.flatten.length:=ko ls i (by omega)
  refine ai0 ?_;refine a7 _ rfl (fun r1=>?_) (fun r1=>?_)
  ·
   have h1:=ae r1
   try simp only [ty] at h1
   exfalso
   omega
  have h1:=aa r1
  try simp only [ty] at h1
  refine w_5 ?_;refine ⟨i + 1, ?_, ?_, ?_⟩
  · show i + 1 ≤ _
    omega
  · first | omega | (dsimp only;omega)
  exact ⟨⟨zy,zy,c9,c9,c9,trivial⟩,trivial⟩
 have h0:=aa r0
 try simp only [ty] at h0
 obtain rfl:i = ls.length:=by omega
 have hfe:(ls.take ls.length).flatten.length = ls.flatten.length:=by rw [List.take_length]
 refine w_4 ?_;refine al rfl rfl rfl rfl rfl rfl ae4 (aha (ls.take ls.length).flatten.length 100 (by omega) (lf Row.c [])) (bg.refl _) trivial rfl rfl ?_;refine dz ?_
 refine az (ι:=Nat) ⟨[(25,some _),(26,some _)],[]⟩ ⟨⟨c9,c9,trivial⟩,trivial⟩ (fun i=>⟨[(6,some (.v (.one (.ref 100 (ls.take i).flatten.length)))),(27,some (vI i))],[(100,some (.arr true 2 45 (ls.take i).flatten.length (lf Row.c (ls.take i).flatten)))]⟩) (fun i=>i ≤ ls.length) (fun i=>ls.length - i) (0) (Nat.zero_le _) ⟨⟨zy,zy,trivial⟩,⟨u9,trivial⟩⟩ ?_
 rintro i hi
 refine w_5 ?_;refine a7 _ rfl (fun r2=>?_) (fun r2=>?_)
 ·
  have h2:=ae r2
  try simp only [ty] at h2
  have hts:(ls.take (i + 1)).flatten.length = (ls.take i).flatten.length + (ls.getD ((i:Nat):Int).toNat default).length:=by rw [tsf _ _ (by omega),List.length_append];rfl
  have hfl:(ls.take i).flatten.length + (ls.getD ((i:Nat):Int).toNat default).length ≤ ls.flatten.length:=ko ls i (by omega)
  refine gk ?_;refine ra 0 true rfl rfl rfl rfl rfl rfl ?_;refine w_6 ?_;refine ⟨i + 1, ?_, ?_, ?_⟩
  · show i + 1 ≤ _
    omega
  · first | omega | (dsimp only;omega)
  exact ⟨⟨⟨_,rfl,(CoR.of_eq (by rw [hts]))⟩,zy,c9,c9,trivial⟩,⟨⟨_,rfl,(by rw [tsf _ _ (by omega)];exact kb _ (fun h=>h) rfl (fun i j hi hj=>CoP.refl _))⟩,trivial⟩⟩
 have h2:=aa r2
 try simp only [ty] at h2
 obtain rfl:i = ls.length:=by omega
 refine w_7 ?_;refine ⟨.inr rfl, ?_⟩
 rw [show ls.flatten = (ls.take ls.length).flatten by rw [List.take_length]]
 exact f9 rfl rfl (CoL.refl _)
theorem a9q:am Tryz.prog 71:=wgx Tryz.func71
theorem c71 (t:Tbl) (id:Int):ay Tryz.prog 71 [t.pc,pI id] (bu [(qd t id).pc,pI (d4 t id)]):=by
 refine av (nt:=37) a8 Tryz.func71 rfl rfl l9 ?_;refine sx7 ?_;refine m9 0 ?_;refine m9 1 ?_;refine w_6 ?_;refine qcx a2d (c88 _) ?_;refine w_7 ?_;refine a7 _ rfl (fun r0=>?_) (fun r0=>?_)
 ·
  have h0:=r0
  have h0:=aa (b7 h0)
  try simp only [ty] at h0
  refine w_8 ?_;refine ⟨.inr rfl, ?_⟩
  have he:d4 t id = cz t:=by unfold d4;rw [if_pos (by assumption)]
  rw [wn he (by first | assumption | omega | decide)]
  exact f9 rfl rfl (⟨CoC.agg ⟨CoP.refl _,ar,ar,trivial⟩,cci he.symm,trivial⟩)
 have h0:=r0
 have h0:=ae (b8 h0)
 try simp only [ty] at h0
 have hT:=ey.1 (show cz t = 0 by simpa using h0)
 have hok:=hT.ok
 refine w_5 ?_;refine qcx xx (c68 _ _) ?_;refine gk ?_;refine a7 _ rfl (fun r1=>?_) (fun r1=>?_)
 ·
  have h1:=r1
  have h1:=b7 h1
  have hfd:=aa h1
  refine w_7 ?_;refine ⟨.inr rfl, ?_⟩
  have he:d4 t id = 4:=by unfold d4;rw [if_neg (by omega),if_neg (by omega)]
  rw [wn he (by first | assumption | omega | decide)]
  exact f9 rfl rfl (⟨CoC.agg ⟨CoP.refl _,ar,ar,trivial⟩,cci he.symm,trivial⟩)
 have h1:=r1
 have h1:=b8 h1
 have hfd:=ae h1
 have hix:=il hfd
 refine w_2 ?_
 have he:d4 t id = 0:=by unfold d4;rw [if_neg (by omega),if_pos (by assumption)]
 have hnr:=hT.nr
 have hll:([t.rows.take (max (aj t.rows id) 0).toNat,t.rows.drop (max (aj t.rows id) 0 + 1).toNat].flatten).length ≤ 68719476736:=by simp;omega
 refine ap (E:=au) a8 ag [0,1,2,3,4,5,6,7,8,9,10,11,12,13,14] ?_;refine dz ?_;refine m9 2 ?_
 refine al rfl rfl rfl rfl rfl rfl afh (ay.eat (hcs:=[.one (.ref 2 2)]) (o1:=[(2, .arr true 1 40 2 (lf rwC [t.rows.take (max (aj t.rows id) 0).toNat,t.rows.drop (max (aj t.rows id) 0 + 1).toNat]))]) (c99 [t.rows.take (max (aj t.rows id) 0).toNat,t.rows.drop (max (aj t.rows id) 0 + 1).toNat] hll) rfl (by (repeat' apply And.intro) <;> first | trivial | rfl) (CoL.refl _)) (bg.refl _) ⟨⟨_,rfl,⟨fun h=>h,rfl,rfl,rfl,fun i j hi hj=>(by have hi:i < 2:=hi;have hj:j < 1:=hj;obtain rfl:j = 0:=(by omega);rcases (show i = 0 ∨ i = 1 by omega) with rfl | rfl;exact wc rfl (by omega);exact ac5 rfl rfl)⟩⟩,trivial⟩ rfl rfl ?_
 refine qcx a5j (c94 t [t.rows.take (max (aj t.rows id) 0).toNat,t.rows.drop (max (aj t.rows id) 0 + 1).toNat].flatten hok.1 hll (fun j hj=>(hok.2.2:k7 t.rows).sub (fun x hx=>(by simp only [List.flatten_cons,List.flatten_nil,List.append_nil] at hx;exact (List.mem_append.1 hx).elim (fun h=>List.mem_of_mem_take h) (fun h=>List.mem_of_mem_drop h))) j hj)) ?_
 refine w_3 ?_;refine ⟨by kernel_rfl, ?_⟩;refine ej ?_;refine ⟨.inr rfl, ?_⟩
 have hL:[t.rows.take (max (aj t.rows id) 0).toNat,t.rows.drop (max (aj t.rows id) 0 + 1).toNat].flatten = t.rows.eraseIdx (aj t.rows id).toNat:=by rw [← a6l,show (max (aj t.rows id) 0).toNat = (aj t.rows id).toNat from by omega,show (max (aj t.rows id) 0 + 1).toNat = (aj t.rows id).toNat + 1 from by omega];simp
 rw [v6 he,← hL]
 exact f9 rfl rfl (⟨CoC.refl _,cci he.symm,trivial⟩)
end
section
open Go.Proofs
theorem gj {d:DB} {k:Nat} {t:Tbl} (hk:k < d.length):CoP (.sl d.length 3 false (gt (lf Tbl.c d) k 0 [t.c 0,t.c 1,t.c 2])) (pw (d.set k t)):=by
 refine CoP.sl List.length_set (.inl rfl) (fun h=>h) fun i j hi hj=>CoP.of_eq ?_
 unfold gt
 by_cases h:i = k
 · rw [jh h (by omega)]
   match j,hj with
   | 0,_=>simp [h]
   | 1,_=>simp [h]
   | 2,_=>simp [h]
 rw [jv h]
 simp [h]
theorem a5i:am Tryz.prog 45:=wgx Tryz.func45
theorem c45 (d:DB) (c:Chg) (hd:dbV d) (hc:c.ok):ay Tryz.prog 45 [lq d,c.pc] (bu [lq (f8 d c),pI (ah d c)]):=by
 refine av (nt:=137) a8 Tryz.func45 rfl rfl l9 ?_
 have hdl:=hd.1
 refine sx7 ?_;refine m9 0 ?_;refine m9 1 ?_;refine m9 2 ?_;refine w_9 ?_;refine a7 _ rfl (fun r0=>?_) (fun r0=>?_)
 ·
  have h0:=ae r0
  try simp only [ty] at h0
  refine dz ?_;refine a7 _ rfl (fun r1=>?_) (fun r1=>?_)
  ·
   have h1:=r1
   have h1:=aa (b7 h1)
   try simp only [ty] at h1
   refine w_7 ?_;refine ⟨.inr rfl, ?_⟩
   have he:ah d c = 1:=aE1 (by assumption) (by assumption)
   rw [cj he (by first | assumption | omega | decide)]
   exact f9 rfl rfl (⟨CoC.refl _,cci he.symm,trivial⟩)
  have h1:=r1
  have h1:=ae (b8 h1)
  try simp only [ty] at h1
  refine w_7 ?_;refine qcx afi (c65 _ _) ?_;refine w_7 ?_;refine a7 _ rfl (fun r2=>?_) (fun r2=>?_)
  ·
   have h2:=r2
   have h2:=aa (b7 h2)
   try simp only [ty] at h2
   refine w_8 ?_;refine ⟨.inr rfl, ?_⟩
   have he:ah d c = j1 d c.table:=aE2 (by assumption) (by assumption)
   rw [cj he (by first | assumption | omega | decide)]
   exact f9 rfl rfl (⟨CoC.refl _,cci he.symm,trivial⟩)
  have h2:=r2
  have h2:=ae (b8 h2)
  try simp only [ty] at h2
  refine w_2 ?_;refine ap (E:=au) a8 ag [0,1,2,3,4,5,6,7,8,9,10] ?_;refine w_2 ?_;refine al rfl rfl rfl rfl rfl rfl ow ((a0q d (by omega)).swap 0 100) (bg.refl _) trivial rfl rfl ?_
  refine w_2 ?_;refine qcx rt (c51 _ hc.1) ?_;refine m9 3 ?_;refine ra 4 true rfl rfl rfl rfl rfl rfl ?_;refine w_4 ?_;refine ⟨by kernel_rfl, ?_⟩;refine ej ?_;refine ⟨.inr rfl, ?_⟩
  have he:ah d c = 0:=(aE2 (by assumption) (by assumption)).trans (by assumption)
  rw [aD1 he (by assumption)]
  exact f9 rfl rfl (⟨CoC.agg ⟨qz rfl rfl (fun i j hi hj=>CoP.refl _) (jq (lt3 (CoP.refl _) (CoP.refl _) (CoP.refl _))),trivial⟩,cci he.symm,trivial⟩)
 have h0:=aa r0
 try simp only [ty] at h0
 refine w_8 ?_;refine bo rfl rfl (fun r3=>?_) (fun r3=>?_)
 ·
  have h3:=ae r3
  try simp only [ty] at h3
  (iterate 3 refine k9 (gtf r3) ?_);refine rq rfl rfl rfl rfl rfl ?_ (hp:=r3);refine ca ?_;refine a7 _ rfl (fun _=>?_) (fun e=>by cases e);refine w_7 ?_;refine ⟨.inr rfl, ?_⟩
  have he:ah d c = 1:=aE3 (by omega)
  rw [cj he (by first | assumption | omega | decide)]
  exact f9 rfl rfl (⟨CoC.refl _,cci he.symm,trivial⟩)
 have h3:=aa r3
 try simp only [ty] at h3
 (iterate 3 refine qy ?_ (hg:=(gff r3)));refine w_2 ?_;refine a7 _ rfl (fun r4=>?_) (fun r4=>?_)
 ·
  have h4:=r4
  have h4:=bw r3 h4
  have h4:=ae h4
  try simp only [ty] at h4
  refine w_7 ?_;refine ⟨.inr rfl, ?_⟩
  have he:ah d c = 1:=aE3 (by omega)
  rw [cj he (by first | assumption | omega | decide)]
  exact f9 rfl rfl (⟨CoC.refl _,cci he.symm,trivial⟩)
 have h4:=r4
 have h4:=bw r3 h4
 have h4:=aa h4
 try simp only [ty] at h4
 refine w_6 ?_;refine qcx a5r (c67 d c.name) ?_;refine w_8 ?_;refine a7 _ rfl (fun r5=>?_) (fun r5=>?_)
 ·
  have h5:=ae r5
  try simp only [ty] at h5
  refine w_7 ?_;refine ⟨.inr rfl, ?_⟩
  have he:ah d c = 4:=aE4 (by omega) (by assumption)
  rw [cj he (by first | assumption | omega | decide)]
  exact f9 rfl rfl (⟨CoC.refl _,cci he.symm,trivial⟩)
 have h5:=aa r5
 try simp only [ty] at h5
 have hix:=h5
 have htb:=pg h5
 have hT:TOk (aq d c.name):=hd.at h5
 refine w_8 ?_;refine m9 5 ?_;refine w_9 ?_;refine a7 _ rfl (fun r6=>?_) (fun r6=>?_)
 ·
  have h6:=r6
  have h6:=aa (b7 h6)
  try simp only [ty] at h6
  refine w_6 ?_;refine qcx xx (c68 (aq d c.name) c.row.id) ?_;refine gk ?_;refine a7 _ rfl (fun r7=>?_) (fun r7=>?_)
  ·
   have h7:=r7
   have h7:=b7 h7
   have hfd:¬ 0 ≤ aj (aq d c.name).rows c.row.id:=aa h7
   refine w_7 ?_;refine ⟨.inr rfl, ?_⟩
   have he:ah d c = 4:=(aE5 (by omega) hix).trans (cE4 (by assumption) hfd)
   rw [cj he (by first | assumption | omega | decide)]
   exact f9 rfl rfl (⟨CoC.refl _,cci he.symm,trivial⟩)
  have h7:=r7
  have h7:=b8 h7
  have hfd:0 ≤ aj (aq d c.name).rows c.row.id:=ae h7
  have hra2:max (aj (aq d c.name).rows c.row.id) 0 < ((d.getD (bv d c.name).toNat default).rows.length:Int):=(by have:=il hfd;show _ < ((aq d c.name).rows.length:Int);omega)
  refine w_2 ?_;refine ap (E:=au) a8 ag [0,1,2,3,4,5,6,7,8,9,10] ?_;refine w_9 ?_;refine qcx agi (c69 _ _) ?_;refine w_2 ?_;refine ⟨by kernel_rfl, ?_⟩
  refine a7 _ rfl (fun r8=>?_) (fun r8=>?_)
  ·
   have h8:=r8
   have h8:=b7 h8
   have hval:¬ _:=aa h8
   refine w_7 ?_;refine ⟨.inr rfl, ?_⟩
   have he:ah d c = 16:=(aE5 (by omega) hix).trans (a83 (by assumption) hfd hval)
   rw [cj he (by first | assumption | omega | decide)]
   exact f9 rfl rfl (⟨CoC.refl _,cci he.symm,trivial⟩)
  have h8:=r8
  have h8:=b8 h8
  have hval:=ae h8
  refine a3f ?_;refine a7 _ rfl (fun r9=>?_) (fun r9=>?_)
  ·
   have h9:=ae r9
   try simp only [ty] at h9
   refine w_4 ?_;refine qcx aas (c70 (aq d c.name) c.row) ?_;refine gk ?_;refine a7 _ rfl (fun r10=>?_) (fun r10=>?_)
   ·
    have h10:=r10
    have h10:=aa (b7 h10)
    try simp only [ty] at h10
    refine w_8 ?_;refine ⟨.inr rfl, ?_⟩
    first | (exfalso;omega) | (have he:ah d c = c5 (aq d c.name) c.row:=(aE5 (by omega) hix).trans (cE2 (by omega));rw [cj he (by assumption)];exact ⟨_,_,_,_,rfl,(by (repeat' apply And.intro) <;> first | trivial | exact Nat.le_of_ble_eq_true rfl | rfl),rfl,(by (repeat' apply And.intro) <;> first | trivial | exact Nat.le_of_ble_eq_true rfl | rfl),⟨CoC.refl _,cci he.symm,trivial⟩⟩) | (have he:ah d c = d4 (aq d c.name) c.row.id:=(aE5 (by omega) hix).trans (cE3 (by omega) hfd hval);rw [cj he (by assumption)];exact ⟨_,_,_,_,rfl,(by (repeat' apply And.intro) <;> first | trivial | exact Nat.le_of_ble_eq_true rfl | rfl),rfl,(by (repeat' apply And.intro) <;> first | trivial | exact Nat.le_of_ble_eq_true rfl | rfl),⟨CoC.refl _,cci he.symm,trivial⟩⟩) | (have he:ah d c = cn (aq d c.name) c.row.id c.attr c.value:=(aE5 (by omega) hix).trans (cEc (by omega) (by omega) hfd hval);rw [cj he (by assumption)];exact ⟨_,_,_,_,rfl,(by (repeat' apply And.intro) <;> first | trivial | exact Nat.le_of_ble_eq_true rfl | rfl),rfl,(by (repeat' apply And.intro) <;> first | trivial | exact Nat.le_of_ble_eq_true rfl | rfl),⟨CoC.refl _,cci he.symm,trivial⟩⟩)
   have h10:=r10
   have h10:=ae (b8 h10)
   try simp only [ty] at h10
   refine w_5 ?_;refine al rfl rfl rfl rfl rfl rfl ow ((a0q d (by omega)).swap 0 100) (bg.refl _) trivial rfl rfl ?_;refine qy ?_;refine m9 6 ?_;refine wt ?_;refine ⟨.inr rfl, ?_⟩
   first | (exfalso;omega) | (have he:ah d c = 0:=((aE5 (by omega) hix).trans (cE2 (by omega))).trans (by assumption);rw [aD2 he (by omega) (cT2 (by omega))];exact ⟨_,_,_,_,rfl,(by (repeat' apply And.intro) <;> first | trivial | exact Nat.le_of_ble_eq_true rfl | rfl),rfl,(by (repeat' apply And.intro) <;> first | trivial | exact Nat.le_of_ble_eq_true rfl | rfl),⟨CoC.agg ⟨gj htb,trivial⟩,cci he.symm,trivial⟩⟩) | (have he:ah d c = 0:=((aE5 (by omega) hix).trans (cE3 (by omega) hfd hval)).trans (by assumption);rw [aD2 he (by omega) (cT3 (by omega))];exact ⟨_,_,_,_,rfl,(by (repeat' apply And.intro) <;> first | trivial | exact Nat.le_of_ble_eq_true rfl | rfl),rfl,(by (repeat' apply And.intro) <;> first | trivial | exact Nat.le_of_ble_eq_true rfl | rfl),⟨CoC.agg ⟨gj htb,trivial⟩,cci he.symm,trivial⟩⟩) | (have he:ah d c = 0:=((aE5 (by omega) hix).trans (cEc (by omega) (by omega) hfd hval)).trans (by assumption);rw [aD2 he (by omega) (cT4 (by omega) (by omega))];exact ⟨_,_,_,_,rfl,(by (repeat' apply And.intro) <;> first | trivial | exact Nat.le_of_ble_eq_true rfl | rfl),rfl,(by (repeat' apply And.intro) <;> first | trivial | exact Nat.le_of_ble_eq_true rfl | rfl),⟨CoC.agg ⟨gj htb,trivial⟩,cci he.symm,trivial⟩⟩)
  have h9:=aa r9
  try simp only [ty] at h9
  refine w_5 ?_;refine a7 _ rfl (fun r11=>?_) (fun r11=>?_)
  ·
   have h11:=ae r11
   try simp only [ty] at h11
   refine w_5 ?_;refine qcx a9q (c71 (aq d c.name) c.row.id) ?_;refine gk ?_;refine a7 _ rfl (fun r12=>?_) (fun r12=>?_)
   ·
    have h12:=r12
    have h12:=aa (b7 h12)
    try simp only [ty] at h12
    refine w_8 ?_;refine ⟨.inr rfl, ?_⟩
    first | (exfalso;omega) | (have he:ah d c = c5 (aq d c.name) c.row:=(aE5 (by omega) hix).trans (cE2 (by omega));rw [cj he (by assumption)];exact ⟨_,_,_,_,rfl,(by (repeat' apply And.intro) <;> first | trivial | exact Nat.le_of_ble_eq_true rfl | rfl),rfl,(by (repeat' apply And.intro) <;> first | trivial | exact Nat.le_of_ble_eq_true rfl | rfl),⟨CoC.refl _,cci he.symm,trivial⟩⟩) | (have he:ah d c = d4 (aq d c.name) c.row.id:=(aE5 (by omega) hix).trans (cE3 (by omega) hfd hval);rw [cj he (by assumption)];exact ⟨_,_,_,_,rfl,(by (repeat' apply And.intro) <;> first | trivial | exact Nat.le_of_ble_eq_true rfl | rfl),rfl,(by (repeat' apply And.intro) <;> first | trivial | exact Nat.le_of_ble_eq_true rfl | rfl),⟨CoC.refl _,cci he.symm,trivial⟩⟩) | (have he:ah d c = cn (aq d c.name) c.row.id c.attr c.value:=(aE5 (by omega) hix).trans (cEc (by omega) (by omega) hfd hval);rw [cj he (by assumption)];exact ⟨_,_,_,_,rfl,(by (repeat' apply And.intro) <;> first | trivial | exact Nat.le_of_ble_eq_true rfl | rfl),rfl,(by (repeat' apply And.intro) <;> first | trivial | exact Nat.le_of_ble_eq_true rfl | rfl),⟨CoC.refl _,cci he.symm,trivial⟩⟩)
   have h12:=r12
   have h12:=ae (b8 h12)
   try simp only [ty] at h12
   refine w_5 ?_;refine al rfl rfl rfl rfl rfl rfl ow ((a0q d (by omega)).swap 0 100) (bg.refl _) trivial rfl rfl ?_;refine qy ?_;refine m9 7 ?_;refine wt ?_;refine ⟨.inr rfl, ?_⟩
   first | (exfalso;omega) | (have he:ah d c = 0:=((aE5 (by omega) hix).trans (cE2 (by omega))).trans (by assumption);rw [aD2 he (by omega) (cT2 (by omega))];exact ⟨_,_,_,_,rfl,(by (repeat' apply And.intro) <;> first | trivial | exact Nat.le_of_ble_eq_true rfl | rfl),rfl,(by (repeat' apply And.intro) <;> first | trivial | exact Nat.le_of_ble_eq_true rfl | rfl),⟨CoC.agg ⟨gj htb,trivial⟩,cci he.symm,trivial⟩⟩) | (have he:ah d c = 0:=((aE5 (by omega) hix).trans (cE3 (by omega) hfd hval)).trans (by assumption);rw [aD2 he (by omega) (cT3 (by omega))];exact ⟨_,_,_,_,rfl,(by (repeat' apply And.intro) <;> first | trivial | exact Nat.le_of_ble_eq_true rfl | rfl),rfl,(by (repeat' apply And.intro) <;> first | trivial | exact Nat.le_of_ble_eq_true rfl | rfl),⟨CoC.agg ⟨gj htb,trivial⟩,cci he.symm,trivial⟩⟩) | (have he:ah d c = 0:=((aE5 (by omega) hix).trans (cEc (by omega) (by omega) hfd hval)).trans (by assumption);rw [aD2 he (by omega) (cT4 (by omega) (by omega))];exact ⟨_,_,_,_,rfl,(by (repeat' apply And.intro) <;> first | trivial | exact Nat.le_of_ble_eq_true rfl | rfl),rfl,(by (repeat' apply And.intro) <;> first | trivial | exact Nat.le_of_ble_eq_true rfl | rfl),⟨CoC.agg ⟨gj htb,trivial⟩,cci he.symm,trivial⟩⟩)
  have h11:=aa r11
  try simp only [ty] at h11
  refine w_5 ?_;refine a7 _ rfl (fun r13=>?_) (fun r13=>?_)
  ·
   have h13:=ae r13
   try simp only [ty] at h13
   refine dz ?_;refine qcx abr (c72 (aq d c.name) c.row.id c.attr c.value) ?_;refine gk ?_;refine a7 _ rfl (fun r14=>?_) (fun r14=>?_)
   ·
    have h14:=r14
    have h14:=aa (b7 h14)
    try simp only [ty] at h14
    refine w_8 ?_;refine ⟨.inr rfl, ?_⟩
    first | (exfalso;omega) | (have he:ah d c = c5 (aq d c.name) c.row:=(aE5 (by omega) hix).trans (cE2 (by omega));rw [cj he (by assumption)];exact ⟨_,_,_,_,rfl,(by (repeat' apply And.intro) <;> first | trivial | exact Nat.le_of_ble_eq_true rfl | rfl),rfl,(by (repeat' apply And.intro) <;> first | trivial | exact Nat.le_of_ble_eq_true rfl | rfl),⟨CoC.refl _,cci he.symm,trivial⟩⟩) | (have he:ah d c = d4 (aq d c.name) c.row.id:=(aE5 (by omega) hix).trans (cE3 (by omega) hfd hval);rw [cj he (by assumption)];exact ⟨_,_,_,_,rfl,(by (repeat' apply And.intro) <;> first | trivial | exact Nat.le_of_ble_eq_true rfl | rfl),rfl,(by (repeat' apply And.intro) <;> first | trivial | exact Nat.le_of_ble_eq_true rfl | rfl),⟨CoC.refl _,cci he.symm,trivial⟩⟩) | (have he:ah d c = cn (aq d c.name) c.row.id c.attr c.value:=(aE5 (by omega) hix).trans (cEc (by omega) (by omega) hfd hval);rw [cj he (by assumption)];exact ⟨_,_,_,_,rfl,(by (repeat' apply And.intro) <;> first | trivial | exact Nat.le_of_ble_eq_true rfl | rfl),rfl,(by (repeat' apply And.intro) <;> first | trivial | exact Nat.le_of_ble_eq_true rfl | rfl),⟨CoC.refl _,cci he.symm,trivial⟩⟩)
   have h14:=r14
   have h14:=ae (b8 h14)
   try simp only [ty] at h14
   refine w_5 ?_;refine al rfl rfl rfl rfl rfl rfl ow ((a0q d (by omega)).swap 0 100) (bg.refl _) trivial rfl rfl ?_;refine qy ?_;refine m9 8 ?_;refine wt ?_;refine ⟨.inr rfl, ?_⟩
   first | (exfalso;omega) | (have he:ah d c = 0:=((aE5 (by omega) hix).trans (cE2 (by omega))).trans (by assumption);rw [aD2 he (by omega) (cT2 (by omega))];exact ⟨_,_,_,_,rfl,(by (repeat' apply And.intro) <;> first | trivial | exact Nat.le_of_ble_eq_true rfl | rfl),rfl,(by (repeat' apply And.intro) <;> first | trivial | exact Nat.le_of_ble_eq_true rfl | rfl),⟨CoC.agg ⟨gj htb,trivial⟩,cci he.symm,trivial⟩⟩) | (have he:ah d c = 0:=((aE5 (by omega) hix).trans (cE3 (by omega) hfd hval)).trans (by assumption);rw [aD2 he (by omega) (cT3 (by omega))];exact ⟨_,_,_,_,rfl,(by (repeat' apply And.intro) <;> first | trivial | exact Nat.le_of_ble_eq_true rfl | rfl),rfl,(by (repeat' apply And.intro) <;> first | trivial | exact Nat.le_of_ble_eq_true rfl | rfl),⟨CoC.agg ⟨gj htb,trivial⟩,cci he.symm,trivial⟩⟩) | (have he:ah d c = 0:=((aE5 (by omega) hix).trans (cEc (by omega) (by omega) hfd hval)).trans (by assumption);rw [aD2 he (by omega) (cT4 (by omega) (by omega))];exact ⟨_,_,_,_,rfl,(by (repeat' apply And.intro) <;> first | trivial | exact Nat.le_of_ble_eq_true rfl | rfl),rfl,(by (repeat' apply And.intro) <;> first | trivial | exact Nat.le_of_ble_eq_true rfl | rfl),⟨CoC.agg ⟨gj htb,trivial⟩,cci he.symm,trivial⟩⟩)
  have h13:=aa r13
  try simp only [ty] at h13
  exfalso
  omega
 have h6:=r6
 have h6:=ae (b8 h6)
 try simp only [ty] at h6
 refine a3f ?_;refine a7 _ rfl (fun r15=>?_) (fun r15=>?_)
 ·
  have h15:=ae r15
  try simp only [ty] at h15
  refine w_4 ?_;refine qcx aas (c70 (aq d c.name) c.row) ?_;refine gk ?_;refine a7 _ rfl (fun r16=>?_) (fun r16=>?_)
  ·
   have h16:=r16
   have h16:=aa (b7 h16)
   try simp only [ty] at h16
   refine w_8 ?_;refine ⟨.inr rfl, ?_⟩
   first | (exfalso;omega) | (have he:ah d c = c5 (aq d c.name) c.row:=(aE5 (by omega) hix).trans (cE2 (by omega));rw [cj he (by assumption)];exact ⟨_,_,_,_,rfl,(by (repeat' apply And.intro) <;> first | trivial | exact Nat.le_of_ble_eq_true rfl | rfl),rfl,(by (repeat' apply And.intro) <;> first | trivial | exact Nat.le_of_ble_eq_true rfl | rfl),⟨CoC.refl _,cci he.symm,trivial⟩⟩) | (have he:ah d c = d4 (aq d c.name) c.row.id:=(aE5 (by omega) hix).trans (cE3 (by omega) hfd hval);rw [cj he (by assumption)];exact ⟨_,_,_,_,rfl,(by (repeat' apply And.intro) <;> first | trivial | exact Nat.le_of_ble_eq_true rfl | rfl),rfl,(by (repeat' apply And.intro) <;> first | trivial | exact Nat.le_of_ble_eq_true rfl | rfl),⟨CoC.refl _,cci he.symm,trivial⟩⟩) | (have he:ah d c = cn (aq d c.name) c.row.id c.attr c.value:=(aE5 (by omega) hix).trans (cEc (by omega) (by omega) hfd hval);rw [cj he (by assumption)];exact ⟨_,_,_,_,rfl,(by (repeat' apply And.intro) <;> first | trivial | exact Nat.le_of_ble_eq_true rfl | rfl),rfl,(by (repeat' apply And.intro) <;> first | trivial | exact Nat.le_of_ble_eq_true rfl | rfl),⟨CoC.refl _,cci he.symm,trivial⟩⟩)
  have h16:=r16
  have h16:=ae (b8 h16)
  try simp only [ty] at h16
  refine w_5 ?_;refine al rfl rfl rfl rfl rfl rfl ow ((a0q d (by omega)).swap 0 100) (bg.refl _) trivial rfl rfl ?_;refine qy ?_;refine m9 9 ?_;refine wt ?_;refine ⟨.inr rfl, ?_⟩
  first | (exfalso;omega) | (have he:ah d c = 0:=((aE5 (by omega) hix).trans (cE2 (by omega))).trans (by assumption);rw [aD2 he (by omega) (cT2 (by omega))];exact ⟨_,_,_,_,rfl,(by (repeat' apply And.intro) <;> first | trivial | exact Nat.le_of_ble_eq_true rfl | rfl),rfl,(by (repeat' apply And.intro) <;> first | trivial | exact Nat.le_of_ble_eq_true rfl | rfl),⟨CoC.agg ⟨gj htb,trivial⟩,cci he.symm,trivial⟩⟩) | (have he:ah d c = 0:=((aE5 (by omega) hix).trans (cE3 (by omega) hfd hval)).trans (by assumption);rw [aD2 he (by omega) (cT3 (by omega))];exact ⟨_,_,_,_,rfl,(by (repeat' apply And.intro) <;> first | trivial | exact Nat.le_of_ble_eq_true rfl | rfl),rfl,(by (repeat' apply And.intro) <;> first | trivial | exact Nat.le_of_ble_eq_true rfl | rfl),⟨CoC.agg ⟨gj htb,trivial⟩,cci he.symm,trivial⟩⟩) | (have he:ah d c = 0:=((aE5 (by omega) hix).trans (cEc (by omega) (by omega) hfd hval)).trans (by assumption);rw [aD2 he (by omega) (cT4 (by omega) (by omega))];exact ⟨_,_,_,_,rfl,(by (repeat' apply And.intro) <;> first | trivial | exact Nat.le_of_ble_eq_true rfl | rfl),rfl,(by (repeat' apply And.intro) <;> first | trivial | exact Nat.le_of_ble_eq_true rfl | rfl),⟨CoC.agg ⟨gj htb,trivial⟩,cci he.symm,trivial⟩⟩)
 have h15:=aa r15
 try simp only [ty] at h15
 refine w_5 ?_;refine a7 _ rfl (fun r17=>?_) (fun r17=>?_)
 ·
  have h17:=ae r17
  try simp only [ty] at h17
  refine w_5 ?_;refine qcx a9q (c71 (aq d c.name) c.row.id) ?_;refine gk ?_;refine a7 _ rfl (fun r18=>?_) (fun r18=>?_)
  ·
   have h18:=r18
   have h18:=aa (b7 h18)
   try simp only [ty] at h18
   refine w_8 ?_;refine ⟨.inr rfl, ?_⟩
   first | (exfalso;omega) | (have he:ah d c = c5 (aq d c.name) c.row:=(aE5 (by omega) hix).trans (cE2 (by omega));rw [cj he (by assumption)];exact ⟨_,_,_,_,rfl,(by (repeat' apply And.intro) <;> first | trivial | exact Nat.le_of_ble_eq_true rfl | rfl),rfl,(by (repeat' apply And.intro) <;> first | trivial | exact Nat.le_of_ble_eq_true rfl | rfl),⟨CoC.refl _,cci he.symm,trivial⟩⟩) | (have he:ah d c = d4 (aq d c.name) c.row.id:=(aE5 (by omega) hix).trans (cE3 (by omega) hfd hval);rw [cj he (by assumption)];exact ⟨_,_,_,_,rfl,(by (repeat' apply And.intro) <;> first | trivial | exact Nat.le_of_ble_eq_true rfl | rfl),rfl,(by (repeat' apply And.intro) <;> first | trivial | exact Nat.le_of_ble_eq_true rfl | rfl),⟨CoC.refl _,cci he.symm,trivial⟩⟩) | (have he:ah d c = cn (aq d c.name) c.row.id c.attr c.value:=(aE5 (by omega) hix).trans (cEc (by omega) (by omega) hfd hval);rw [cj he (by assumption)];exact ⟨_,_,_,_,rfl,(by (repeat' apply And.intro) <;> first | trivial | exact Nat.le_of_ble_eq_true rfl | rfl),rfl,(by (repeat' apply And.intro) <;> first | trivial | exact Nat.le_of_ble_eq_true rfl | rfl),⟨CoC.refl _,cci he.symm,trivial⟩⟩)
  have h18:=r18
  have h18:=ae (b8 h18)
  try simp only [ty] at h18
  refine w_5 ?_;refine al rfl rfl rfl rfl rfl rfl ow ((a0q d (by omega)).swap 0 100) (bg.refl _) trivial rfl rfl ?_;refine qy ?_;refine m9 10 ?_;refine wt ?_;refine ⟨.inr rfl, ?_⟩
  first | (exfalso;omega) | (have he:ah d c = 0:=((aE5 (by omega) hix).trans (cE2 (by omega))).trans (by assumption);rw [aD2 he (by omega) (cT2 (by omega))];exact ⟨_,_,_,_,rfl,(by (repeat' apply And.intro) <;> first | trivial | exact Nat.le_of_ble_eq_true rfl | rfl),rfl,(by (repeat' apply And.intro) <;> first | trivial | exact Nat.le_of_ble_eq_true rfl | rfl),⟨CoC.agg ⟨gj htb,trivial⟩,cci he.symm,trivial⟩⟩) | (have he:ah d c = 0:=((aE5 (by omega) hix).trans (cE3 (by omega) hfd hval)).trans (by assumption);rw [aD2 he (by omega) (cT3 (by omega))];exact ⟨_,_,_,_,rfl,(by (repeat' apply And.intro) <;> first | trivial | exact Nat.le_of_ble_eq_true rfl | rfl),rfl,(by (repeat' apply And.intro) <;> first | trivial | exact Nat.le_of_ble_eq_true rfl | rfl),⟨CoC.agg ⟨gj htb,trivial⟩,cci he.symm,trivial⟩⟩) | (have he:ah d c = 0:=((aE5 (by omega) hix).trans (cEc (by omega) (by omega) hfd hval)).trans (by assumption);rw [aD2 he (by omega) (cT4 (by omega) (by omega))];exact ⟨_,_,_,_,rfl,(by (repeat' apply And.intro) <;> first | trivial | exact Nat.le_of_ble_eq_true rfl | rfl),rfl,(by (repeat' apply And.intro) <;> first | trivial | exact Nat.le_of_ble_eq_true rfl | rfl),⟨CoC.agg ⟨gj htb,trivial⟩,cci he.symm,trivial⟩⟩)
 have h17:=aa r17
 try simp only [ty] at h17
 refine w_5 ?_;refine a7 _ rfl (fun r19=>?_) (fun r19=>?_)
 ·
  have h19:=ae r19
  try simp only [ty] at h19
  refine dz ?_;refine qcx abr (c72 (aq d c.name) c.row.id c.attr c.value) ?_;refine gk ?_;refine a7 _ rfl (fun r20=>?_) (fun r20=>?_)
  ·
   have h20:=r20
   have h20:=aa (b7 h20)
   try simp only [ty] at h20
   refine w_8 ?_;refine ⟨.inr rfl, ?_⟩
   first | (exfalso;omega) | (have he:ah d c = c5 (aq d c.name) c.row:=(aE5 (by omega) hix).trans (cE2 (by omega));rw [cj he (by assumption)];exact ⟨_,_,_,_,rfl,(by (repeat' apply And.intro) <;> first | trivial | exact Nat.le_of_ble_eq_true rfl | rfl),rfl,(by (repeat' apply And.intro) <;> first | trivial | exact Nat.le_of_ble_eq_true rfl | rfl),⟨CoC.refl _,cci he.symm,trivial⟩⟩) | (have he:ah d c = d4 (aq d c.name) c.row.id:=(aE5 (by omega) hix).trans (cE3 (by omega) hfd hval);rw [cj he (by assumption)];exact ⟨_,_,_,_,rfl,(by (repeat' apply And.intro) <;> first | trivial | exact Nat.le_of_ble_eq_true rfl | rfl),rfl,(by (repeat' apply And.intro) <;> first | trivial | exact Nat.le_of_ble_eq_true rfl | rfl),⟨CoC.refl _,cci he.symm,trivial⟩⟩) | (have he:ah d c = cn (aq d c.name) c.row.id c.attr c.value:=(aE5 (by omega) hix).trans (cEc (by omega) (by omega) hfd hval);rw [cj he (by assumption)];exact ⟨_,_,_,_,rfl,(by (repeat' apply And.intro) <;> first | trivial | exact Nat.le_of_ble_eq_true rfl | rfl),rfl,(by (repeat' apply And.intro) <;> first | trivial | exact Nat.le_of_ble_eq_true rfl | rfl),⟨CoC.refl _,cci he.symm,trivial⟩⟩)
  have h20:=r20
  have h20:=ae (b8 h20)
  try simp only [ty] at h20
  refine w_5 ?_;refine al rfl rfl rfl rfl rfl rfl ow ((a0q d (by omega)).swap 0 100) (bg.refl _) trivial rfl rfl ?_;refine qy ?_;refine m9 11 ?_;refine wt ?_;refine ⟨.inr rfl, ?_⟩
  first | (exfalso;omega) | (have he:ah d c = 0:=((aE5 (by omega) hix).trans (cE2 (by omega))).trans (by assumption);rw [aD2 he (by omega) (cT2 (by omega))];exact ⟨_,_,_,_,rfl,(by (repeat' apply And.intro) <;> first | trivial | exact Nat.le_of_ble_eq_true rfl | rfl),rfl,(by (repeat' apply And.intro) <;> first | trivial | exact Nat.le_of_ble_eq_true rfl | rfl),⟨CoC.agg ⟨gj htb,trivial⟩,cci he.symm,trivial⟩⟩) | (have he:ah d c = 0:=((aE5 (by omega) hix).trans (cE3 (by omega) hfd hval)).trans (by assumption);rw [aD2 he (by omega) (cT3 (by omega))];exact ⟨_,_,_,_,rfl,(by (repeat' apply And.intro) <;> first | trivial | exact Nat.le_of_ble_eq_true rfl | rfl),rfl,(by (repeat' apply And.intro) <;> first | trivial | exact Nat.le_of_ble_eq_true rfl | rfl),⟨CoC.agg ⟨gj htb,trivial⟩,cci he.symm,trivial⟩⟩) | (have he:ah d c = 0:=((aE5 (by omega) hix).trans (cEc (by omega) (by omega) hfd hval)).trans (by assumption);rw [aD2 he (by omega) (cT4 (by omega) (by omega))];exact ⟨_,_,_,_,rfl,(by (repeat' apply And.intro) <;> first | trivial | exact Nat.le_of_ble_eq_true rfl | rfl),rfl,(by (repeat' apply And.intro) <;> first | trivial | exact Nat.le_of_ble_eq_true rfl | rfl),⟨CoC.agg ⟨gj htb,trivial⟩,cci he.symm,trivial⟩⟩)
 have h19:=aa r19
 try simp only [ty] at h19
 exfalso
 omega
end
section
structure Str where
 db:DB
 done:List (List Chg)
 undone:List (List Chg)
 opn:Bool
 now:List Chg
abbrev Str.objs (x:Str):List (Nat × af) :=
 [(1000, .box [.p (pw x.db), .ref 901 x.done.length, .ref 902 x.undone.length, .p (.raw (.bool x.opn)), .ref 903 x.now.length]),
  (901, .arr false 1 23 x.done.length (lf txC x.done)),(902, .arr false 1 23 x.undone.length (lf txC x.undone)),(903, .arr false 11 49 x.now.length (lf Chg.c x.now))]
def bgS (x:Str):Str:=if x.opn = true then x else { x with opn:=true }
def bgE (x:Str):Int:=if x.opn = true then 16 else 0
def enS (x:Str):Str:=if x.opn = true then { x with opn:=false,now:=[] } else x
def enE (x:Str):Int:=if x.opn = true then 0 else 16
def enL (x:Str):List Chg:=if x.opn = true then x.now else []
def cmS (x:Str) (l:List Chg):Str:=if l.length = 0 then x else { x with done:=x.done ++ [l],undone:=[] }
def pfS (x:Str) (c:Chg):Str:=if ah x.db c ≠ 0 then x else if x.opn = true then { x with db:=f8 x.db c,now:=x.now ++ [c] } else cmS { x with db:=f8 x.db c } [c]
def bfE (d:DB) (s:ByteArray) (id:Int):Int:=if bv d s < 0 then 4 else if ¬ 0 ≤ aj (aq d s).rows id then 4 else 0
def bfR (d:DB) (s:ByteArray) (id:Int):Row:=if bfE d s id = 0 then (aq d s).rows.getD (max (aj (aq d s).rows id) 0).toNat default else default
theorem bf4 {d:DB} {s:ByteArray} {id:Int} (h:bv d s < 0 ∨ ¬ 0 ≤ aj (aq d s).rows id):bfE d s id = 4 ∧ bfR d s id = default:=by
 have:bfE d s id = 4:=by
  unfold bfE
  by_cases h1:bv d s < 0
  · rw [if_pos h1]
  rw [if_neg h1,if_pos (h.resolve_left h1)]
 exact ⟨this,by rw [bfR,if_neg (by omega)]⟩
theorem bf0 {d:DB} {s:ByteArray} {id:Int} (h:¬ bv d s < 0) (h2:0 ≤ aj (aq d s).rows id):bfE d s id = 0 ∧ bfR d s id = (aq d s).rows.getD (max (aj (aq d s).rows id) 0).toNat default:=by
 have:bfE d s id = 0:=by unfold bfE;rw [if_neg h,if_neg (by simpa using h2)]
 exact ⟨this,by rw [bfR,if_pos this]⟩
def k6 (t:Tbl):Chg:={ (default:Chg) with kind:=1,name:=t.name,table:=t }
def fl (k:Int) (s:ByteArray) (r:Row):Chg:={ (default:Chg) with kind:=k,name:=s,row:=r }
def j2 (s:ByteArray) (r:Row) (a:Int) (v:Val):Chg:={ (default:Chg) with kind:=4,name:=s,row:=r,attr:=a,value:=v }
def dlE (x:Str) (s:ByteArray) (id:Int):Int:=if bfE x.db s id ≠ 0 then bfE x.db s id else ah x.db (fl 3 s (bfR x.db s id))
def dlS (x:Str) (s:ByteArray) (id:Int):Str:=if bfE x.db s id ≠ 0 then x else pfS x (fl 3 s (bfR x.db s id))
def ja (r:Row) (a:Int) (v:Val):Bool:=decide (0 ≤ a) && decide (a < r.vals.length) && d5 v && decide (r.vals.getD a.toNat default = v)
def cgE (x:Str) (s:ByteArray) (id a:Int) (v:Val):Int:=if bfE x.db s id ≠ 0 then bfE x.db s id else if ja (bfR x.db s id) a v = true then 0 else ah x.db (j2 s (bfR x.db s id) a v)
def cgS (x:Str) (s:ByteArray) (id a:Int) (v:Val):Str:=if bfE x.db s id ≠ 0 then x else if ja (bfR x.db s id) a v = true then x else pfS x (j2 s (bfR x.db s id) a v)
structure SOk (x:Str):Prop where
 db:dbV x.db
 dn:x.done.length ≤ 68719476736
 nw:x.now.length ≤ 68719476736
def fd (c:Chg):Chg :=
 if c.kind = 2 then { c with kind:=3 } else if c.kind = 3 then { c with kind:=2 }
 else if c.kind = 4 then { c with row:={ c.row with vals:=c.row.vals.set c.attr.toNat c.value },value:=c.row.vals.getD c.attr.toNat default } else c
theorem xd {c:Chg} (h:c.kind = 2):fd c = { c with kind:=3 }:=if_pos h
theorem xa {c:Chg} (h:c.kind = 3):fd c = { c with kind:=2 }:=by rw [fd,if_neg (by omega),if_pos h]
theorem a06 {c:Chg} (h:c.kind = 4):fd c = { c with row:={ c.row with vals:=c.row.vals.set c.attr.toNat c.value },value:=c.row.vals.getD c.attr.toNat default }:=by rw [fd,if_neg (by omega),if_neg (by omega),if_pos h]
theorem a4y {c:Chg} (h:¬ c.kind = 2) (h3:¬ c.kind = 3) (h4:¬ c.kind = 4):fd c = c:=by rw [fd,if_neg h,if_neg h3,if_neg h4]
theorem yr {l:List Val} {k:Nat} {t:Val} (hk:k < l.length):CoP (.sl l.length 3 false (gt (lf Val.c l) k 0 [t.c 0,t.c 1,t.c 2])) (vals (l.set k t)):=by
 refine CoP.sl List.length_set (.inl rfl) (fun h=>h) fun i j hi hj=>CoP.of_eq ?_
 unfold gt
 by_cases h:i = k
 · rw [jh h (by omega)]
   match j,hj with
   | 0,_=>simp [h]
   | 1,_=>simp [h]
   | 2,_=>simp [h]
 rw [jv h]
 simp [h]
end
section
open Go.Proofs
theorem a9z:am Tryz.prog 27:=wgx Tryz.func27
theorem c27 (x:Str):br Tryz.prog 27 [.one (.ptr 1000 0)] x.objs (.v (.one (.p (.raw (.int .i64 (bgE x)))))) (bgS x).objs [1000]:=by
 refine c8 (nt:=10) a8 Tryz.func27 rfl rfl l9 rfl ?_;refine gk ?_;refine a7 _ rfl (fun r0=>?_) (fun r0=>?_)
 ·
  have h0:=r0
  refine w_5 ?_;refine ⟨.inr rfl, ?_⟩
  rw [show bgS x = x from if_pos (by assumption),show bgE x = 16 from if_pos (by assumption)]
  exact ⟨_,_,rfl,(by (repeat' apply And.intro) <;> first | trivial | exact Nat.le_of_ble_eq_true rfl),CoR.refl _,⟨u9,u9,u9,u9,trivial⟩⟩
 have h0:=r0
 refine sv ?_;refine ⟨.inr rfl, ?_⟩
 rw [show bgS x = { x with opn:=true } from if_neg (by simp_all),show bgE x = 0 from if_neg (by simp_all)]
 exact ⟨_,_,rfl,(by (repeat' apply And.intro) <;> first | trivial | exact Nat.le_of_ble_eq_true rfl),CoR.refl _,⟨u9,u9,u9,u9,trivial⟩⟩
theorem a17:am Tryz.prog 22:=wgx Tryz.func22
theorem ac1 (x:Str) (hd:dbV x.db):br Tryz.prog 22 [.one (.ptr 1000 0)] x.objs (.v (lq x.db).toH) x.objs [1000]:=by
 refine c8 (nt:=25) a8 Tryz.func22 rfl rfl l9 rfl ?_
 have hdl:=hd.1
 refine sx7 ?_;refine m9 0 ?_;refine w_3 ?_;refine m9 1 ?_;refine sv ?_
 refine ct 1 0 9 true 3 42 (lf Tbl.c x.db) (by decide) rfl rfl (CoP.sl rfl (.inr rfl) (fun h=>h) (fun i j hi _=>absurd hi (Nat.not_lt_zero i))) (.inr rfl) rfl rfl ?_
 refine az (ι:=Nat) ⟨[(2,some _),(3,some _),(10,some _),(11,some _)],[(1000,some _),(901,some _),(902,some _),(903,some _),(0,some _)]⟩ ⟨⟨c9,c9,c9,c9,trivial⟩,⟨u9,u9,u9,u9,u9,trivial⟩⟩ (fun i=>⟨[(12,some (vI i))],[(1,some (.box [.ref 9 i])),(9,some (.arr true 3 42 i (lf Tbl.c x.db)))]⟩) (fun i=>i ≤ x.db.length) (fun i=>x.db.length - i) (0) (Nat.zero_le _) ⟨⟨zy,trivial⟩,⟨u9,u9,trivial⟩⟩ ?_
 rintro i hi
 refine w_5 ?_;refine a7 _ rfl (fun r0=>?_) (fun r0=>?_)
 ·
  have h0:=ae r0
  try simp only [ty] at h0
  refine w_7 ?_;refine m9 2 ?_;refine w_2 ?_;refine ap (E:=au) a8 ag [0,1,2,3,4,5,6,7] ?_;refine w_3 ?_
  refine rc rfl rfl rfl rfl rfl rfl rt (c51 _ (hd.ok.2 i (by omega))) (CoL.refl _) rfl rfl ?_;refine m9 3 ?_;refine ra 4 true rfl rfl rfl rfl rfl rfl ?_;refine w_3 ?_;refine ⟨by kernel_rfl, ?_⟩;refine w_4 ?_
  refine ⟨i + 1, ?_, ?_, ?_⟩
  · show i + 1 ≤ _
    omega
  · first | omega | (dsimp only;omega)
  exact ⟨⟨zy,c9,c9,c9,c9,trivial⟩,⟨u9,⟨_,rfl,(fc (fun h=>h) (lt3 (CoP.refl _) (CoP.refl _) (CoP.refl _)))⟩,u9,u9,u9,u9,u9,trivial⟩⟩
 have h0:=aa r0
 try simp only [ty] at h0
 obtain rfl:i = x.db.length:=by omega
 refine w_2 ?_;refine f4 1 0 rfl rfl rfl rfl rfl ?_;refine w_5 ?_;refine ⟨.inr rfl, ?_⟩
 exact ⟨_,_,rfl,(by (repeat' apply And.intro) <;> first | trivial | exact Nat.le_of_ble_eq_true rfl),CoR.refl _,⟨u9,u9,u9,u9,trivial⟩⟩
end
section
open Go.Proofs
theorem ab6:am Tryz.prog 56:=wgx Tryz.func56
theorem ajd (x:Str) (l:List Chg) (h:x.done.length ≤ 68719476736):br Tryz.prog 56 [.one (.ptr 1000 0), .one (.p (sm l))] x.objs (.tup []) (cmS x l).objs [1000]:=by
 refine c8 (nt:=20) a8 Tryz.func56 rfl rfl l9 rfl ?_;refine pb ?_;refine w_6 ?_;refine a7 _ rfl (fun r0=>?_) (fun r0=>?_)
 ·
  have h0:=ae r0
  try simp only [ty] at h0
  refine w_8 ?_;refine m9 0 ?_;refine ra 1 true rfl rfl rfl rfl rfl rfl ?_;refine w_7 ?_
  show HE _ _ _
  first | (refine rn ⟨[],[(1000,some _),(901,some _),(903,some _)]⟩ ⟨trivial,⟨u9,u9,u9,trivial⟩⟩ ?_;refine ez 1000 2 902 false 1 23 (lf txC []) (by decide) rfl rfl (CoP.sl rfl (.inr rfl) (fun h=>h) (fun i j hi _=>absurd hi (Nat.not_lt_zero i))) (.inl rfl) rfl rfl ?_) | skip
  refine ck ?_;refine ⟨.inl rfl, ?_⟩
  first | (rw [show cmS x l = x from if_pos (by omega)];exact ⟨_,_,rfl,(by (repeat' apply And.intro) <;> first | trivial | exact Nat.le_of_ble_eq_true rfl),CoR.refl _,⟨u9,u9,u9,u9,trivial⟩⟩) | (rw [show cmS x l = { x with done:=x.done ++ [l],undone:=[] } from if_neg (by omega)];exact ⟨_,_,rfl,(by (repeat' apply And.intro) <;> first | trivial | exact Nat.le_of_ble_eq_true rfl),CoR.refl _,⟨⟨_,rfl,⟨CoH.refl _,congrArg (HV.ref 901) (by simp),CoH.refl _,CoH.refl _,CoH.refl _,trivial⟩⟩,⟨_,rfl,(kb _ (fun _=>rfl) rfl (jq (lt1 (CoP.refl _))))⟩,u9,u9,trivial⟩⟩)
 have h0:=aa r0
 try simp only [ty] at h0
 refine ew ?_
 show HE _ _ _
 first | (refine rn ⟨[],[(1000,some _),(901,some _),(903,some _)]⟩ ⟨trivial,⟨u9,u9,u9,trivial⟩⟩ ?_;refine ez 1000 2 902 false 1 23 (lf txC []) (by decide) rfl rfl (CoP.sl rfl (.inr rfl) (fun h=>h) (fun i j hi _=>absurd hi (Nat.not_lt_zero i))) (.inl rfl) rfl rfl ?_) | skip
 refine ck ?_;refine ⟨.inl rfl, ?_⟩
 first | (rw [show cmS x l = x from if_pos (by omega)];exact ⟨_,_,rfl,(by (repeat' apply And.intro) <;> first | trivial | exact Nat.le_of_ble_eq_true rfl),CoR.refl _,⟨u9,u9,u9,u9,trivial⟩⟩) | (rw [show cmS x l = { x with done:=x.done ++ [l],undone:=[] } from if_neg (by omega)];exact ⟨_,_,rfl,(by (repeat' apply And.intro) <;> first | trivial | exact Nat.le_of_ble_eq_true rfl),CoR.refl _,⟨⟨_,rfl,⟨CoH.refl _,congrArg (HV.ref 901) (by simp),CoH.refl _,CoH.refl _,CoH.refl _,trivial⟩⟩,⟨_,rfl,(kb _ (fun _=>rfl) rfl (jq (lt1 (CoP.refl _))))⟩,u9,u9,trivial⟩⟩)
theorem ahy (x:Str) (l:List Chg) (h:x.done.length ≤ 68719476736):br Tryz.prog 56 [.one (.ptr 1000 0), .one (.ref 904 l.length)] (x.objs ++ [(904, .arr true 11 49 l.length (lf Chg.c l))]) (.tup []) (cmS x l).objs [1000]:=by
 refine c8 (nt:=20) a8 Tryz.func56 rfl rfl l9 rfl ?_;refine pb ?_;refine a9o 1 rfl rfl rfl ?_;refine w_6 ?_;refine a7 _ rfl (fun r0=>?_) (fun r0=>?_)
 ·
  have h0:=ae r0
  try simp only [ty] at h0
  refine w_8 ?_;refine m9 0 ?_;refine ra 1 true rfl rfl rfl rfl rfl rfl ?_;refine w_7 ?_
  show HE _ _ _
  first | (refine rn ⟨[],[(1000,some _),(901,some _),(903,some _)]⟩ ⟨trivial,⟨u9,u9,u9,trivial⟩⟩ ?_;refine ez 1000 2 902 false 1 23 (lf txC []) (by decide) rfl rfl (CoP.sl rfl (.inr rfl) (fun h=>h) (fun i j hi _=>absurd hi (Nat.not_lt_zero i))) (.inl rfl) rfl rfl ?_) | skip
  refine ck ?_;refine ⟨.inl rfl, ?_⟩
  first | (rw [show cmS x l = x from if_pos (by omega)];exact ⟨_,_,rfl,(by (repeat' apply And.intro) <;> first | trivial | exact Nat.le_of_ble_eq_true rfl),CoR.refl _,⟨u9,u9,u9,u9,trivial⟩⟩) | (rw [show cmS x l = { x with done:=x.done ++ [l],undone:=[] } from if_neg (by omega)];exact ⟨_,_,rfl,(by (repeat' apply And.intro) <;> first | trivial | exact Nat.le_of_ble_eq_true rfl),CoR.refl _,⟨⟨_,rfl,⟨CoH.refl _,congrArg (HV.ref 901) (by simp),CoH.refl _,CoH.refl _,CoH.refl _,trivial⟩⟩,⟨_,rfl,(kb _ (fun _=>rfl) rfl (jq (lt1 (CoP.refl _))))⟩,u9,u9,trivial⟩⟩)
 have h0:=aa r0
 try simp only [ty] at h0
 refine ew ?_
 show HE _ _ _
 first | (refine rn ⟨[],[(1000,some _),(901,some _),(903,some _)]⟩ ⟨trivial,⟨u9,u9,u9,trivial⟩⟩ ?_;refine ez 1000 2 902 false 1 23 (lf txC []) (by decide) rfl rfl (CoP.sl rfl (.inr rfl) (fun h=>h) (fun i j hi _=>absurd hi (Nat.not_lt_zero i))) (.inl rfl) rfl rfl ?_) | skip
 refine ck ?_;refine ⟨.inl rfl, ?_⟩
 first | (rw [show cmS x l = x from if_pos (by omega)];exact ⟨_,_,rfl,(by (repeat' apply And.intro) <;> first | trivial | exact Nat.le_of_ble_eq_true rfl),CoR.refl _,⟨u9,u9,u9,u9,trivial⟩⟩) | (rw [show cmS x l = { x with done:=x.done ++ [l],undone:=[] } from if_neg (by omega)];exact ⟨_,_,rfl,(by (repeat' apply And.intro) <;> first | trivial | exact Nat.le_of_ble_eq_true rfl),CoR.refl _,⟨⟨_,rfl,⟨CoH.refl _,congrArg (HV.ref 901) (by simp),CoH.refl _,CoH.refl _,CoH.refl _,trivial⟩⟩,⟨_,rfl,(kb _ (fun _=>rfl) rfl (jq (lt1 (CoP.refl _))))⟩,u9,u9,trivial⟩⟩)
end
section
open Go.Proofs
theorem aap:am Tryz.prog 55:=wgx Tryz.func55
theorem agn (x:Str):br Tryz.prog 55 [.one (.ptr 1000 0)] x.objs (.tup [.one (.p (sm (enL x))), .one (.p (.raw (.int .i64 (enE x))))]) (enS x).objs [1000]:=by
 refine c8 (nt:=21) a8 Tryz.func55 rfl rfl l9 rfl ?_;refine pb ?_;refine qb ?_;refine a7 _ rfl (fun r0=>?_) (fun r0=>?_)
 ·
  have h0:=r0
  have h0:=b7 h0
  refine w_6 ?_
  show HE _ _ _
  refine ck ?_;refine ⟨.inr rfl, ?_⟩
  rw [show enL x = [] from if_neg (by simp_all),show enE x = 16 from if_neg (by simp_all),show enS x = x from if_neg (by simp_all)]
  exact ⟨_,_,rfl,(by (repeat' apply And.intro) <;> first | trivial | exact Nat.le_of_ble_eq_true rfl),⟨ar,j3.refl _,trivial⟩,⟨u9,u9,u9,u9,trivial⟩⟩
 have h0:=r0
 have h0:=b8 h0
 refine w_2 ?_;refine f4 1000 4 rfl rfl rfl rfl rfl ?_;refine aim ?_
 show HE _ _ _
 refine rn ⟨[(2,some _),(3,some _)],[(1000,some _),(901,some _),(902,some _)]⟩ ⟨⟨c9,c9,trivial⟩,⟨u9,u9,u9,trivial⟩⟩ ?_
 refine ez 1000 4 903 false 11 49 (lf Chg.c []) (by decide) rfl rfl (CoP.sl rfl (.inr rfl) (fun h=>h) (fun i j hi _=>absurd hi (Nat.not_lt_zero i))) (.inl rfl) rfl rfl ?_;refine ck ?_;refine ⟨.inr rfl, ?_⟩
 rw [show enL x = x.now from if_pos (by simp_all),show enE x = 0 from if_pos (by simp_all),show enS x = { x with opn:=false,now:=[] } from if_pos (by simp_all)]
 exact ⟨_,_,rfl,(by (repeat' apply And.intro) <;> first | trivial | exact Nat.le_of_ble_eq_true rfl),CoR.refl _,⟨u9,u9,u9,u9,trivial⟩⟩
theorem ny:am Tryz.prog 57:=wgx Tryz.func57
theorem vw (x:Str) (c:Chg) (hd:dbV x.db) (hc:c.ok) (h:x.done.length ≤ 68719476736) (h2:x.now.length ≤ 68719476736):br Tryz.prog 57 [.one (.ptr 1000 0),c.pc.toH] x.objs (.v (.one (.p (.raw (.int .i64 (ah x.db c)))))) (pfS x c).objs [1000]:=by
 refine c8 (nt:=41) a8 Tryz.func57 rfl rfl l9 rfl ?_;refine sx7 ?_;refine m9 0 ?_;refine w_3 ?_;refine ap (E:=au) a8 ag [0,1,2,3,4,5,6,7,8,9,10,11] ?_;refine w_5 ?_
 refine qcx a5i (c45 x.db c hd hc) ?_;refine w_3 ?_;refine m9 1 ?_;refine w_3 ?_;refine ⟨by kernel_rfl, ?_⟩;refine w_6 ?_;refine a7 _ rfl (fun r0=>?_) (fun r0=>?_)
 ·
  have h0:=r0
  have h0:=aa (b7 h0)
  try simp only [ty] at h0
  refine w_6 ?_;refine ⟨.inr rfl, ?_⟩
  rw [show pfS x c = x from if_pos (by simp_all)]
  exact ⟨_,_,rfl,(by (repeat' apply And.intro) <;> first | trivial | exact Nat.le_of_ble_eq_true rfl),CoR.refl _,⟨u9,u9,u9,u9,trivial⟩⟩
 have h0:=r0
 have h0:=ae (b8 h0)
 try simp only [ty] at h0
 refine a3f ?_;refine a7 _ rfl (fun r1=>?_) (fun r1=>?_)
 ·
  have h1:=r1
  refine ap (E:=au) a8 ag [0,1,2,3,4,5,6,7,8,9,10] ?_;refine w_6 ?_;refine m9 2 ?_;refine ra 3 true rfl rfl rfl rfl rfl rfl ?_;refine w_4 ?_;refine ⟨by kernel_rfl, ?_⟩;refine w_5 ?_
  refine ⟨.inr rfl, ?_⟩
  have he:ah x.db c = 0:=by simp_all
  first | (rw [show pfS x c = { x with db:=f8 x.db c,now:=x.now ++ [c] } by rw [pfS,if_neg (by simp [he]),if_pos (by assumption)]];rw [he];exact ⟨_,_,rfl,(by (repeat' apply And.intro) <;> first | trivial | exact Nat.le_of_ble_eq_true rfl),CoR.refl _,⟨⟨_,rfl,⟨CoH.refl _,CoH.refl _,CoH.refl _,CoH.refl _,congrArg (HV.ref 903) (by simp),trivial⟩⟩,u9,u9,⟨_,rfl,(kb _ (fun _=>rfl) rfl (jq (a2o (CoP.refl _) (CoP.refl _) (CoP.refl _) (CoP.refl _) (CoP.refl _) (CoP.refl _) (CoP.refl _) (CoP.refl _) (CoP.refl _) (CoP.refl _) (CoP.refl _))))⟩,trivial⟩⟩) | (rw [show pfS x c = cmS { x with db:=f8 x.db c } [c] by rw [pfS,if_neg (by simp [he]),if_neg (by simp_all)]];rw [he];exact ⟨_,_,rfl,(by (repeat' apply And.intro) <;> first | trivial | exact Nat.le_of_ble_eq_true rfl),CoR.refl _,⟨u9,u9,u9,u9,trivial⟩⟩)
 have h1:=r1
 refine w_3 ?_;refine m9 4 ?_
 refine al rfl rfl rfl rfl rfl rfl ab6 ((ahy { x with db:=f8 x.db c } [c] h).swap 904 4) (bg.refl _) ⟨u9,u9,u9,u9,⟨_,rfl,⟨fun h=>h,rfl,rfl,rfl,jq (a2o (CoP.refl _) (CoP.refl _) (CoP.refl _) (CoP.refl _) (CoP.refl _) (CoP.refl _) (CoP.refl _) (CoP.refl _) (CoP.refl _) (CoP.refl _) (CoP.refl _))⟩⟩,trivial⟩ rfl rfl ?_
 refine w_6 ?_;refine ⟨.inr rfl, ?_⟩
 have he:ah x.db c = 0:=by simp_all
 first | (rw [show pfS x c = { x with db:=f8 x.db c,now:=x.now ++ [c] } by rw [pfS,if_neg (by simp [he]),if_pos (by assumption)]];rw [he];exact ⟨_,_,rfl,(by (repeat' apply And.intro) <;> first | trivial | exact Nat.le_of_ble_eq_true rfl),CoR.refl _,⟨⟨_,rfl,⟨CoH.refl _,CoH.refl _,CoH.refl _,CoH.refl _,congrArg (HV.ref 903) (by simp),trivial⟩⟩,u9,u9,⟨_,rfl,(kb _ (fun _=>rfl) rfl (jq (a2o (CoP.refl _) (CoP.refl _) (CoP.refl _) (CoP.refl _) (CoP.refl _) (CoP.refl _) (CoP.refl _) (CoP.refl _) (CoP.refl _) (CoP.refl _) (CoP.refl _))))⟩,trivial⟩⟩) | (rw [show pfS x c = cmS { x with db:=f8 x.db c } [c] by rw [pfS,if_neg (by simp [he]),if_neg (by simp_all)]];rw [he];exact ⟨_,_,rfl,(by (repeat' apply And.intro) <;> first | trivial | exact Nat.le_of_ble_eq_true rfl),CoR.refl _,⟨u9,u9,u9,u9,trivial⟩⟩)
theorem ab2:am Tryz.prog 58:=wgx Tryz.func58
theorem ag8 (x:Str) (s:ByteArray) (id:Int) (hd:dbV x.db):br Tryz.prog 58 [.one (.ptr 1000 0), .one (.p (.raw (.string s))), .one (.p (.raw (.int .i64 id)))] x.objs (.tup [(bfR x.db s id).pc.toH, .one (.p (.raw (.int .i64 (bfE x.db s id))))]) x.objs [1000]:=by
 refine c8 (nt:=49) a8 Tryz.func58 rfl rfl l9 rfl ?_;refine sx7 ?_;refine m9 0 ?_;refine w_9 ?_;refine qcx a5r (c67 x.db s) ?_;refine w_8 ?_;refine a7 _ rfl (fun r0=>?_) (fun r0=>?_)
 ·
  have h0:=ae r0
  try simp only [ty] at h0
  refine w_7 ?_;refine ⟨.inr rfl, ?_⟩
  have hb:=bf4 (d:=x.db) (s:=s) (id:=id) (.inl (by assumption))
  rw [hb.1,hb.2]
  exact ⟨_,_,rfl,(by (repeat' apply And.intro) <;> first | trivial | exact Nat.le_of_ble_eq_true rfl),⟨⟨CoH.refl _,ar,trivial⟩,j3.refl _,trivial⟩,⟨u9,u9,u9,u9,trivial⟩⟩
 have h0:=aa r0
 try simp only [ty] at h0
 have hix:=h0
 have htb:=pg h0
 have hT:TOk (aq x.db s):=hd.at h0
 refine gk ?_;refine qcx xx (c68 (aq x.db s) id) ?_;refine gk ?_;refine a7 _ rfl (fun r1=>?_) (fun r1=>?_)
 ·
  have h1:=r1
  have h1:=b7 h1
  have hfd:¬ 0 ≤ aj (aq x.db s).rows id:=aa h1
  refine w_7 ?_;refine ⟨.inr rfl, ?_⟩
  have hb:=bf4 (d:=x.db) (s:=s) (id:=id) (.inr hfd)
  rw [hb.1,hb.2]
  exact ⟨_,_,rfl,(by (repeat' apply And.intro) <;> first | trivial | exact Nat.le_of_ble_eq_true rfl),⟨⟨CoH.refl _,ar,trivial⟩,j3.refl _,trivial⟩,⟨u9,u9,u9,u9,trivial⟩⟩
 have h1:=r1
 have h1:=b8 h1
 have hfd:0 ≤ aj (aq x.db s).rows id:=ae h1
 have hra:=il hfd
 have hra2:max (aj (aq x.db s).rows id) 0 < ((x.db.getD (bv x.db s).toNat default).rows.length:Int):=(by show _ < ((aq x.db s).rows.length:Int);omega)
 refine wk ?_;refine qcx p8 (c52 ((aq x.db s).rows.getD (max (aj (aq x.db s).rows id) 0).toNat default) (hT.ok.2.2 _ hra).1) ?_;refine w_4 ?_;refine ⟨.inr rfl, ?_⟩
 have hb:=bf0 (d:=x.db) (s:=s) (id:=id) hix hfd
 rw [hb.1,hb.2]
 exact ⟨_,_,rfl,(by (repeat' apply And.intro) <;> first | trivial | exact Nat.le_of_ble_eq_true rfl),CoR.refl _,⟨u9,u9,u9,u9,trivial⟩⟩
end
section
open Go.Proofs
theorem a6n:am Tryz.prog 31:=wgx Tryz.func31
theorem agc (x:Str) (t:Tbl) (hx:SOk x) (ht:t.ok) (hck:(k6 t).ok):br Tryz.prog 31 [.one (.ptr 1000 0),t.pc.toH] x.objs (.v (.one (.p (.raw (.int .i64 (ah x.db (k6 t))))))) (pfS x (k6 t)).objs [1000]:=by
 refine c8 (nt:=12) a8 Tryz.func31 rfl rfl l9 rfl ?_;refine sx7 ?_;refine m9 0 ?_;refine w_3 ?_;refine ap (E:=au) a8 ag [0,1,2,3,4,5,6,7] ?_;refine w_4 ?_;refine qcx rt (c51 t ht) ?_
 refine qy ?_
 refine al rfl rfl rfl rfl rfl rfl ny (vw x (k6 t) hx.db hck hx.dn hx.nw) (⟨j3.refl _,⟨CoH.refl _,CoH.refl _,CoH.refl _,CoH.refl _,CoH.refl _,CoH.refl _,ar,CoH.refl _,CoH.refl _,CoH.refl _,CoH.refl _,trivial⟩,trivial⟩) ⟨u9,u9,u9,u9,trivial⟩ rfl rfl ?_
 refine w_2 ?_;refine ⟨by kernel_rfl, ?_⟩;refine ej ?_;refine ⟨.inr rfl, ?_⟩
 exact ⟨_,_,rfl,(by (repeat' apply And.intro) <;> first | trivial | exact Nat.le_of_ble_eq_true rfl),CoR.refl _,⟨u9,u9,u9,u9,trivial⟩⟩
theorem a2f:am Tryz.prog 34:=wgx Tryz.func34
theorem agw (x:Str) (s:ByteArray) (r:Row) (hx:SOk x) (hr:r.vals.length ≤ 68719476736) (hck:(fl 2 s r).ok):br Tryz.prog 34 [.one (.ptr 1000 0), .one (.p (.raw (.string s))),r.pc.toH] x.objs (.v (.one (.p (.raw (.int .i64 (ah x.db (fl 2 s r))))))) (pfS x (fl 2 s r)).objs [1000]:=by
 refine c8 (nt:=13) a8 Tryz.func34 rfl rfl l9 rfl ?_;refine sx7 ?_;refine m9 0 ?_;refine w_7 ?_;refine qcx p8 (c52 r hr) ?_;refine qy ?_
 refine al rfl rfl rfl rfl rfl rfl ny (vw x (fl 2 s r) hx.db hck hx.dn hx.nw) (⟨j3.refl _,⟨CoH.refl _,CoH.refl _,CoH.refl _,ar,ar,CoH.refl _,CoH.refl _,CoH.refl _,CoH.refl _,CoH.refl _,CoH.refl _,trivial⟩,trivial⟩) ⟨u9,u9,u9,u9,trivial⟩ rfl rfl ?_
 refine w_3 ?_;refine ⟨.inr rfl, ?_⟩
 exact ⟨_,_,rfl,(by (repeat' apply And.intro) <;> first | trivial | exact Nat.le_of_ble_eq_true rfl),CoR.refl _,⟨u9,u9,u9,u9,trivial⟩⟩
theorem aat:am Tryz.prog 39:=wgx Tryz.func39
theorem ag2 (x:Str) (s:ByteArray) (id:Int) (hx:SOk x) (hck:(fl 3 s (bfR x.db s id)).ok):br Tryz.prog 39 [.one (.ptr 1000 0), .one (.p (.raw (.string s))), .one (.p (.raw (.int .i64 (id))))] x.objs (.v (.one (.p (.raw (.int .i64 (dlE x s id)))))) (dlS x s id).objs [1000]:=by
 refine c8 (nt:=24) a8 Tryz.func39 rfl rfl l9 rfl ?_;refine w_9 ?_;refine al rfl rfl rfl rfl rfl rfl ab2 (ag8 x s id hx.db) (bg.refl _) ⟨u9,u9,u9,u9,trivial⟩ rfl rfl ?_;refine w_3 ?_;refine m9 0 ?_
 refine w_9 ?_;refine a7 _ rfl (fun r0=>?_) (fun r0=>?_)
 ·
  have h0:=r0
  have h0:=aa (b7 h0)
  try simp only [ty] at h0
  refine w_6 ?_;refine ⟨.inr rfl, ?_⟩
  rw [show dlE x s id = bfE x.db s id from if_pos (by simp_all),show dlS x s id = x from if_pos (by simp_all)]
  exact ⟨_,_,rfl,(by (repeat' apply And.intro) <;> first | trivial | exact Nat.le_of_ble_eq_true rfl),CoR.refl _,⟨u9,u9,u9,u9,trivial⟩⟩
 have h0:=r0
 have h0:=ae (b8 h0)
 try simp only [ty] at h0
 refine w_7 ?_
 refine al rfl rfl rfl rfl rfl rfl ny (vw x (fl 3 s (bfR x.db s id)) hx.db hck hx.dn hx.nw) (⟨j3.refl _,⟨CoH.refl _,CoH.refl _,CoH.refl _,ar,ar,CoH.refl _,CoH.refl _,CoH.refl _,CoH.refl _,CoH.refl _,CoH.refl _,trivial⟩,trivial⟩) ⟨u9,u9,u9,u9,trivial⟩ rfl rfl ?_
 refine w_3 ?_;refine ⟨.inr rfl, ?_⟩
 rw [show dlE x s id = ah x.db (fl 3 s (bfR x.db s id)) from if_neg (by simp_all),show dlS x s id = pfS x (fl 3 s (bfR x.db s id)) from if_neg (by simp_all)]
 exact ⟨_,_,rfl,(by (repeat' apply And.intro) <;> first | trivial | exact Nat.le_of_ble_eq_true rfl),CoR.refl _,⟨u9,u9,u9,u9,trivial⟩⟩
theorem agb:am Tryz.prog 28:=wgx Tryz.func28
theorem ai2 (x:Str) (hx:SOk x):br Tryz.prog 28 [.one (.ptr 1000 0)] x.objs (.v (.one (.p (.raw (.int .i64 (enE x)))))) (cmS (enS x) (enL x)).objs [1000]:=by
 refine c8 (nt:=14) a8 Tryz.func28 rfl rfl l9 rfl ?_
 have hdn:(enS x).done.length ≤ 68719476736:=by unfold enS;split <;> exact hx.dn
 refine w_7 ?_;refine al rfl rfl rfl rfl rfl rfl aap (agn x) (bg.refl _) ⟨u9,u9,u9,u9,trivial⟩ rfl rfl ?_;refine dz ?_
 refine al rfl rfl rfl rfl rfl rfl ab6 (ajd (enS x) (enL x) hdn) (bg.refl _) ⟨u9,u9,u9,u9,trivial⟩ rfl rfl ?_;refine w_7 ?_;refine ⟨.inr rfl, ?_⟩
 exact ⟨_,_,rfl,(by (repeat' apply And.intro) <;> first | trivial | exact Nat.le_of_ble_eq_true rfl),CoR.refl _,⟨u9,u9,u9,u9,trivial⟩⟩
end
end Go.Hx

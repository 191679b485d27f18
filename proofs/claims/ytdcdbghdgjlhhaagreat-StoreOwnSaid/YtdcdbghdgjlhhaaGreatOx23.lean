/- A part of the proof: Sp7 W17 W18. -/
import Derived.Test.YtdcdbghdgjlhhaaGreatOx13
import Derived.Test.YtdcdbghdgjlhhaaGreatOx16
import Derived.Test.YtdcdbghdgjlhhaaGreatOx20
import Derived.Test.YtdcdbghdgjlhhaaGreatOx21
import Derived.Test.YtdcdbghdgjlhhaaGreatOx22
set_option linter.all false
set_option maxRecDepth 100000
namespace Go.Hx
section
def lbd:List Row → Int → Nat
 | [],_=>0
 | r :: l,id=>if r.id < id then lbd l id + 1 else 0
theorem y8 {id:Int}:∀ {l:List Row},lbd l id ≤ l.length
 | []=>Nat.le_refl _
 | r :: l=>by
  have:=y8 (id:=id) (l:=l)
  unfold lbd
  split <;> simp <;> omega
theorem aar {id:Int}:∀ {l:List Row} {i:Nat},i ≤ l.length → (∀ k,k < i → (l.getD k default).id < id) → (i < l.length → ¬ (l.getD i default).id < id) → lbd l id = i
 | [],i,h,_,_=>by simp at h;simp [lbd,h]
 | r :: l,0,_,_,h2=>by
  have:=h2 (by simp)
  simp only [List.getD_cons_zero] at this
  simp [lbd,this]
 | r :: l,i + 1,h,h1,h2=>by
  have h0:=h1 0 (by omega)
  simp only [List.getD_cons_zero] at h0
  have ih:=aar (l:=l) (i:=i) (id:=id) (by simpa using h) (fun k hk=>by have:=h1 (k + 1) (by omega);simpa using this) (fun hi=>by have:=h2 (by simpa using hi);simpa using this)
  simp [lbd,h0,ih]
theorem ab9 {id:Int}:∀ {l:List Row} {k:Nat},k < lbd l id → (l.getD k default).id < id
 | [],k,h=>by simp [lbd] at h
 | r :: l,k,h=>by
  unfold lbd at h
  split at h
  · rename_i h0
    cases k with
    | zero=>simpa using h0
    | succ k=>simpa using ab9 (l:=l) (k:=k) (by omega)
  omega
theorem abo {id:Int}:∀ {l:List Row},lbd l id < l.length → ¬ (l.getD (lbd l id) default).id < id
 | [],h=>by simp at h
 | r :: l,h=>by
  unfold lbd at h ⊢
  split at h
  · rename_i h0
    rw [if_pos h0]
    simpa using abo (l:=l) (by simpa using h)
  rename_i h0
  rw [if_neg h0]
  simpa using h0
theorem xb {l:List Row} (hs:ff l) {i j:Nat} (hij:i ≤ j) (hj:j < l.length):(l.getD i default).id ≤ (l.getD j default).id:=by
 rcases Nat.lt_or_eq_of_le hij with h | rfl
 · rw [cg _ _ hj,cg _ _ (by omega)]
   have:=List.pairwise_iff_getElem.1 hs i j (by omega) hj h
   omega
 exact Int.le_refl _
theorem afs {l:List Row} {r:Row} (hs:ff l) (hn:∀ x ∈ l,x.id ≠ r.id):dv l (lbd l r.id) r = f6 r l:=by
 refine qe hs y8 (fun j h1 h2=>?_) ?_
 · have ha:=abo (l:=l) (id:=r.id) (by omega)
   have hb:=xb hs h1 h2
   have hc:=hn _ (by rw [cg _ _ h2];exact List.getElem_mem h2:(l.getD j default) ∈ l)
   omega
 by_cases h:lbd l r.id = 0
 · exact .inl h
 have:=ab9 (l:=l) (id:=r.id) (k:=lbd l r.id - 1) (by omega)
 exact .inr (by omega)
def bsF (l:List Row) (id:Int):Bool:=decide (lbd l id < l.length) && decide ((l.getD (lbd l id) default).id = id)
def tt (a b:Int):Int:=if a < b then -1 else if b < a then 1 else 0
theorem afn (i j:Nat):((i:Int) + j).fdiv (2 ^ (min ((1:Int).toNat) IntKind.u64.bits)) = (((i + j) / 2:Nat):Int):=by
 show ((i:Int) + j).fdiv 2 = _
 rw [Int.fdiv_eq_ediv_of_nonneg _ (by omega)]
 omega
theorem a4v {a b:Int}:tt a b < 0 ↔ a < b:=by unfold tt;split <;> (try split) <;> omega
theorem a1v {a b:Int}:tt a b = 0 ↔ a = b:=by unfold tt;split <;> (try split) <;> omega
theorem adt {l:List Row} {id:Int} {i j:Nat} (hs:ff l) (h:i < j) (h2:j ≤ l.length) (hA:∀ k,k < i → (l.getD k default).id < id) (hB:∀ k,j ≤ k → k < l.length → id ≤ (l.getD k default).id)
 (hc:tt (l.getD (((i + j) / 2:Nat):Int).toNat default).id id < 0):(i + j) / 2 + 1 ≤ j ∧ j ≤ l.length ∧ (∀ k,k < (i + j) / 2 + 1 → (l.getD k default).id < id) ∧ (∀ k,j ≤ k → k < l.length → id ≤ (l.getD k default).id):=by
 rw [a4v,Int.toNat_natCast] at hc
 refine ⟨by omega,h2,fun k hk=>?_,hB⟩
 have:=xb hs (i:=k) (j:=(i + j) / 2) (by omega) (by omega)
 omega
theorem ads {l:List Row} {id:Int} {i j:Nat} (hs:ff l) (h:i < j) (h2:j ≤ l.length) (hA:∀ k,k < i → (l.getD k default).id < id) (hB:∀ k,j ≤ k → k < l.length → id ≤ (l.getD k default).id)
 (hc:¬ tt (l.getD (((i + j) / 2:Nat):Int).toNat default).id id < 0):i ≤ (i + j) / 2 ∧ (i + j) / 2 ≤ l.length ∧ (∀ k,k < i → (l.getD k default).id < id) ∧ (∀ k,(i + j) / 2 ≤ k → k < l.length → id ≤ (l.getD k default).id):=by
 rw [a4v,Int.toNat_natCast] at hc
 refine ⟨by omega,by omega,hA,fun k hk hl=>?_⟩
 have:=xb hs (i:=(i + j) / 2) (j:=k) hk hl
 omega
theorem ae7 {l:List Row} {k:Nat} {r:Row} (h:k ≤ l.length) (i j:Nat):CoP (ud k (lf Row.c l) (lf Row.c [r]) i j) (lf Row.c (dv l k r) i j):=by
 refine CoP.of_eq ?_
 unfold ud lf
 simp only [List.getD]
 rw [yd h]
 by_cases h1:i < k
 · simp [h1]
 by_cases h2:i = k
 · subst h2;simp
 simp [h1,h2]
end
section
open Go.Proofs
theorem ag3:am Tryz.prog 97:=wgx Tryz.func97
theorem a9n:am Tryz.prog 96:=wgx Tryz.func96
theorem c96 (r:Row) (id:Int):ay Tryz.prog 96 [r.pc,pI id] (bu [pI (tt r.id id)]):=by
 refine av (nt:=15) a8 Tryz.func96 rfl rfl l9 ?_;refine sx7 ?_;refine m9 0 ?_;refine gk ?_;refine a7 _ rfl (fun r0=>?_) (fun r0=>?_)
 ·
  have h0:=ae r0
  try simp only [ty] at h0
  refine w_4 ?_
  exact hx8 rfl rfl rfl (⟨cci (by unfold tt;split <;> omega),trivial⟩)
 have h0:=aa r0
 try simp only [ty] at h0
 refine w_8 ?_;refine a7 _ rfl (fun r1=>?_) (fun r1=>?_)
 ·
  have h1:=ae r1
  try simp only [ty] at h1
  refine w_4 ?_
  exact hx8 rfl rfl rfl (⟨cci (by unfold tt;split <;> (try split) <;> omega),trivial⟩)
 have h1:=aa r1
 try simp only [ty] at h1
 refine w_5 ?_
 exact hx8 rfl rfl rfl (⟨cci (by unfold tt;split <;> (try split) <;> omega),trivial⟩)
theorem afr:am Tryz.prog 95:=wgx Tryz.func95
theorem c95 (l:List Row) (id:Int) (caps:Nat → PV) (hs:ff l) (hl:l.length ≤ 68719476736):ay Tryz.prog 95 [pP (rows l),pI id,pP (.fn 96 0 caps)] (bu [pI (lbd l id),pB (bsF l id)]):=by
 refine av (nt:=49) a8 Tryz.func95 rfl rfl l9 ?_;refine acf ?_
 refine az (ι:=(Nat × Nat)) ⟨[(0,some _),(1,some _),(2,some _),(8,some _)],[]⟩ ⟨⟨c9,c9,c9,c9,trivial⟩,trivial⟩ (fun q=>match q with | (i,j)=>⟨[(9,some (vI i)),(10,some (vI j))],[]⟩) (fun q=>match q with | (i,j)=>i ≤ j ∧ j ≤ l.length ∧ (∀ k,k < i → (l.getD k default).id < id) ∧ (∀ k,j ≤ k → k < l.length → id ≤ (l.getD k default).id)) (fun q=>match q with | (i,j)=>j - i) ((0,l.length)) (⟨Nat.zero_le _,Nat.le_refl _,dy,fun k h1 h2=>by omega⟩) ⟨⟨zy,zy,trivial⟩,trivial⟩ ?_
 rintro ⟨i,j⟩ hq
 obtain ⟨h1,h2,hA,hB⟩:i ≤ j ∧ j ≤ l.length ∧ (∀ k,k < i → (l.getD k default).id < id) ∧ (∀ k,j ≤ k → k < l.length → id ≤ (l.getD k default).id):=hq
 have hmid:=afn i j
 refine w_7 ?_;refine a7 _ rfl (fun r0=>?_) (fun r0=>?_)
 ·
  have h0:=ae r0
  try simp only [ty] at h0
  refine af7 ?_;refine qcx a9n (c96 _ _) ?_;refine w_2 ?_;refine a7 _ rfl (fun r1=>?_) (fun r1=>?_)
  ·
   have h1:=ae r1
   try simp only [ty] at h1
   have hc:=h1
   refine w_5 ?_
   first | (refine ⟨((i + j) / 2 + 1, j), ?_, ?_, ?_⟩
            · show ((i + j) / 2 + 1) ≤ j ∧ j ≤ l.length ∧ (∀ k,k < ((i + j) / 2 + 1) → (l.getD k default).id < id) ∧ (∀ k,j ≤ k → k < l.length → id ≤ (l.getD k default).id)
              exact adt hs (by omega) h2 hA hB (by rw [hmid] at hc;exact hc)
            · show j - ((i + j) / 2 + 1) < j - i
              omega
            exact ⟨⟨⟨_,rfl,(coi (by rw [hmid];omega))⟩,⟨_,rfl,(CoR.refl _)⟩,c9,c9,c9,c9,trivial⟩,trivial⟩)
         | (refine ⟨(i,(i + j) / 2), ?_, ?_, ?_⟩
            · show i ≤ ((i + j) / 2) ∧ ((i + j) / 2) ≤ l.length ∧ (∀ k,k < i → (l.getD k default).id < id) ∧ (∀ k,((i + j) / 2) ≤ k → k < l.length → id ≤ (l.getD k default).id)
              exact ads hs (by omega) h2 hA hB (by rw [hmid] at hc;exact hc)
            · show (i + j) / 2 - i < j - i
              omega
            exact ⟨⟨⟨_,rfl,(CoR.refl _)⟩,⟨_,rfl,(coi hmid)⟩,c9,c9,c9,c9,trivial⟩,trivial⟩)
  have h1:=aa r1
  try simp only [ty] at h1
  have hc:=h1
  refine w_4 ?_
  first | (refine ⟨((i + j) / 2 + 1, j), ?_, ?_, ?_⟩
           · show ((i + j) / 2 + 1) ≤ j ∧ j ≤ l.length ∧ (∀ k,k < ((i + j) / 2 + 1) → (l.getD k default).id < id) ∧ (∀ k,j ≤ k → k < l.length → id ≤ (l.getD k default).id)
             exact adt hs (by omega) h2 hA hB (by rw [hmid] at hc;exact hc)
           · show j - ((i + j) / 2 + 1) < j - i
             omega
           exact ⟨⟨⟨_,rfl,(coi (by rw [hmid];omega))⟩,⟨_,rfl,(CoR.refl _)⟩,c9,c9,c9,c9,trivial⟩,trivial⟩)
        | (refine ⟨(i,(i + j) / 2), ?_, ?_, ?_⟩
           · show i ≤ ((i + j) / 2) ∧ ((i + j) / 2) ≤ l.length ∧ (∀ k,k < i → (l.getD k default).id < id) ∧ (∀ k,((i + j) / 2) ≤ k → k < l.length → id ≤ (l.getD k default).id)
             exact ads hs (by omega) h2 hA hB (by rw [hmid] at hc;exact hc)
           · show (i + j) / 2 - i < j - i
             omega
           exact ⟨⟨⟨_,rfl,(CoR.refl _)⟩,⟨_,rfl,(coi hmid)⟩,c9,c9,c9,c9,trivial⟩,trivial⟩)
 have h0:=aa r0
 try simp only [ty] at h0
 obtain rfl:i = j:=by omega
 have hb:=aar h2 hA (fun hi=>by have:=hB i (Nat.le_refl _) hi;omega)
 refine w_8 ?_;refine bo rfl rfl (fun r2=>?_) (fun r2=>?_)
 ·
  have h2:=ae r2
  try simp only [ty] at h2
  (iterate 6 refine qy ?_ (hg:=(gtt r2)));refine qcx a9n (c96 _ _) ?_ (hg:=(gtt r2));refine qy ?_ (hg:=(gtt r2));refine w_5 ?_;refine ⟨.inr rfl, ?_⟩
  rw [hb]
  exact f9 rfl rfl (⟨CoC.refl _,ccb (by first | (simp [bsF,hb,a1v, *];done) | (unfold bsF;rw [hb];simp [a1v, *] <;> (intros;omega))),trivial⟩)
 have h2:=aa r2
 try simp only [ty] at h2
 (iterate 8 refine k9 (gft r2) ?_);refine rq rfl rfl rfl rfl rfl ?_ (hp:=r2);refine w_4 ?_;refine ⟨.inr rfl, ?_⟩
 rw [hb]
 exact f9 rfl rfl (⟨CoC.refl _,ccb (by first | (simp [bsF,hb,a1v, *];done) | (unfold bsF;rw [hb];simp [a1v, *] <;> (intros;omega))),trivial⟩)
end
section
open Go.Proofs
theorem aas:am Tryz.prog 70:=wgx Tryz.func70
theorem c70 (t:Tbl) (r:Row):ay Tryz.prog 70 [t.pc,r.pc] (bu [(py t r).pc,pI (c5 t r)]):=by
 refine av (nt:=75) a8 Tryz.func70 rfl rfl l9 ?_;refine sx7 ?_;refine m9 0 ?_;refine m9 1 ?_;refine m9 2 ?_;refine w_6 ?_;refine qcx a2d (c88 _) ?_;refine w_7 ?_
 refine a7 _ rfl (fun r0=>?_) (fun r0=>?_)
 ·
  have h0:=r0
  have h0:=aa (b7 h0)
  try simp only [ty] at h0
  refine w_8 ?_;refine ⟨.inr rfl, ?_⟩
  have he:c5 t r = cz t:=by unfold c5;rw [if_pos (by assumption)]
  rw [i3 he (by first | assumption | omega | decide)]
  exact f9 rfl rfl (⟨CoC.agg ⟨CoP.refl _,ar,ar,trivial⟩,cci he.symm,trivial⟩)
 have h0:=r0
 have h0:=ae (b8 h0)
 try simp only [ty] at h0
 have hT:=ey.1 (show cz t = 0 by simpa using h0)
 have hok:=hT.ok
 refine w_6 ?_;refine qcx xx (c68 _ _) ?_;refine acf ?_;refine a7 _ rfl (fun r1=>?_) (fun r1=>?_)
 ·
  have h1:=r1
  have h1:=aa (b7 h1)
  try simp only [ty] at h1
  refine w_7 ?_;refine ⟨.inr rfl, ?_⟩
  have he:c5 t r = 6:=by unfold c5;rw [if_neg (by omega),if_pos (by omega)]
  rw [i3 he (by first | assumption | omega | decide)]
  exact f9 rfl rfl (⟨CoC.agg ⟨CoP.refl _,ar,ar,trivial⟩,cci he.symm,trivial⟩)
 have h1:=r1
 have h1:=ae (b8 h1)
 try simp only [ty] at h1
 refine w_6 ?_;refine bo rfl rfl (fun r2=>?_) (fun r2=>?_)
 ·
  have h2:=ae r2
  try simp only [ty] at h2
  (iterate 4 refine k9 (gtf r2) ?_);refine rq rfl rfl rfl rfl rfl ?_ (hp:=r2);refine w_2 ?_;refine a7 _ rfl (fun _=>?_) (fun e=>by cases e);refine w_7 ?_;refine ⟨.inr rfl, ?_⟩
  have he:c5 t r = 1:=by unfold c5;rw [if_neg (by omega),if_neg (by omega),if_pos (by first | exact .inl (by omega) | exact .inr (by assumption))]
  rw [i3 he (by first | assumption | omega | decide)]
  exact f9 rfl rfl (⟨CoC.agg ⟨CoP.refl _,ar,ar,trivial⟩,cci he.symm,trivial⟩)
 have h2:=aa r2
 try simp only [ty] at h2
 (iterate 2 refine qy ?_ (hg:=(gff r2)));refine qcx abl (c93 _) ?_ (hg:=(gff r2));refine qy ?_ (hg:=(gff r2));refine w_3 ?_;refine a7 _ rfl (fun r3=>?_) (fun r3=>?_)
 ·
  have h3:=r3
  have h3:=bw r2 h3
  have h3:=b7 h3
  refine w_7 ?_;refine ⟨.inr rfl, ?_⟩
  have he:c5 t r = 1:=by unfold c5;rw [if_neg (by omega),if_neg (by omega),if_pos (by first | exact .inl (by omega) | exact .inr (by assumption))]
  rw [i3 he (by first | assumption | omega | decide)]
  exact f9 rfl rfl (⟨CoC.agg ⟨CoP.refl _,ar,ar,trivial⟩,cci he.symm,trivial⟩)
 have h3:=r3
 have h3:=bw r2 h3
 have h3:=b8 h3
 refine w_5 ?_;refine a7 _ rfl (fun r4=>?_) (fun r4=>?_)
 ·
  have h4:=r4
  have hkn:=ae h4
  refine w_7 ?_;refine ⟨.inr rfl, ?_⟩
  have he:c5 t r = 5:=by unfold c5;rw [if_neg (by omega),if_neg (by omega),if_neg (by rintro (h | h) <;> first | omega | simp_all),if_pos (by assumption)]
  rw [i3 he (by first | assumption | omega | decide)]
  exact f9 rfl rfl (⟨CoC.agg ⟨CoP.refl _,ar,ar,trivial⟩,cci he.symm,trivial⟩)
 have h4:=r4
 have hkn:=aa h4
 refine w_8 ?_;refine a7 _ rfl (fun r5=>?_) (fun r5=>?_)
 ·
  have h5:=ae r5
  try simp only [ty] at h5
  refine w_7 ?_;refine ⟨.inr rfl, ?_⟩
  have he:c5 t r = 3:=by unfold c5;rw [if_neg (by omega),if_neg (by omega),if_neg (by rintro (h | h) <;> first | omega | simp_all),if_neg (by omega),if_pos (by omega)]
  rw [i3 he (by first | assumption | omega | decide)]
  exact f9 rfl rfl (⟨CoC.agg ⟨CoP.refl _,ar,ar,trivial⟩,cci he.symm,trivial⟩)
 have h5:=aa r5
 try simp only [ty] at h5
 refine w_2 ?_
 have hie:c5 t r = 0:=by unfold c5;rw [if_neg (by omega),if_neg (by omega),if_neg (by rintro (h | h) <;> first | omega | simp_all),if_neg (by omega),if_neg (by omega)]
 have hs:=fu hT.rs
 have hnr:=hT.nr
 have hna:=hT.na
 refine w_4 ?_;refine al rfl rfl rfl rfl rfl rfl a5j (aib t t.rows hok.1 hok.2.1 hok.2.2) (bg.refl _) trivial rfl rfl ?_;refine m9 3 ?_;refine w_8 ?_
 refine rc rfl rfl rfl rfl rfl rfl afr (c95 t.rows r.id _ hs (by omega)) (CoL.refl _) rfl rfl ?_;refine w_7 ?_;refine ap (E:=au) a8 ag [0,1,2,3,4,5,6,7,8] ?_;refine w_4 ?_
 refine qcx uw (c98 r (by omega)) ?_;refine m9 4 ?_
 refine al rfl rfl rfl rfl rfl rfl ag3 (ai3 t.rows.length (lbd t.rows r.id) 100 4 102 (lf Row.c t.rows) (lf Row.c [r]) rfl y8 (by omega)) (bg.refl _) ⟨u9,⟨_,rfl,⟨fun h=>h,rfl,rfl,rfl,jq (lt2 (CoP.refl _) (CoP.refl _))⟩⟩,trivial⟩ rfl rfl ?_
 refine w_3 ?_;refine ⟨by kernel_rfl, ?_⟩;refine w_7 ?_;refine ⟨.inr rfl, ?_⟩
 rw [qr hie,← afs hs (wq (by omega))]
 exact f9 rfl rfl (⟨CoC.agg ⟨CoP.refl _,CoP.refl _,CoP.sl (ks y8) (.inl rfl) (fun h=>h) (fun i j _ _=>ae7 y8 i j),trivial⟩,cci hie.symm,trivial⟩)
end
end Go.Hx

/- A part of the proof: Bz11 Y14. -/
import Derived.Test.YtidophngianjiaaGreatDoorBx30
import Derived.Test.YtidophngianjiaaGreatDoorBx36
import Derived.Test.YtidophngianjiaaGreatDoorBx37
set_option linter.all false
section
namespace Go.Hx
section
variable {n:Int} {p m:List Fd} {E:Int → Int → Prop} {R:Rw → Prop}
def b1f (E:Int → Int → Prop) (R:Rw → Prop) (x b:AS):Prop:=∀ a c,R a → R c → AgE E a c x → R (d5 a c b)
theorem uj (h:Mdl n.toNat p m E R) {a c r:Rw} {b:AS} (hr:R r) (ha:R a) (hc:R c) (he:∀ i,i < n.toNat → E (r.getD i default) (if c4 b (i:Int) = true then a.getD i default else c.getD i default)):R (d5 a c b):=by
 have la:=h.len ha
 have lc:=h.len hc
 have lr:=h.len hr
 refine h.cong hr (by rw [ju,lc,lr]) fun i hi=>?_
 rw [lb (by omega)]
 exact he i (by omega)
theorem ape (h8:n ≤ 8) (h:Mdl n.toNat p m E R) {x:AS} {bs:List AS} (hb:Blk (fq p m) (af n &&& ~~~x) bs):∀ b ∈ bs,b1f E R x b:=by
 have hN:n.toNat ≤ 8:=by omega
 refine hb.ind _ (fun a c ha hc hag=>?_) fun d hd b hG hsp=>?_
 · refine uj h ha ha hc fun i hi=>?_
   split
   · exact h.refl _
   · rename_i hh
     refine hag i (by rw [h.len ha];exact hi) ?_
     rw [cj (by omega)] at hh ⊢
     rw [bw (by omega)] at hh
     have hf:=aez (n:=n) (i:=i) (by omega) hi
     rw [cj (by omega)] at hf
     rw [hf] at hh
     simpa using hh
 · obtain ⟨s1,s2,s3⟩:=lu.1 hsp
   have hL:∀ i:Nat,i < n.toNat → c4 d.lhs (i:Int) = true → c4 b (i:Int) = false:=fun i hi hl=>by
    rw [cj (by omega)] at hl ⊢
    cases hbi:b.getLsbD i with
    | false=>rfl
    | true=>rw [gr.1 s1 i (by omega) hbi] at hl;cases hl
   have key:∀ a c,R a → R c → AgE E a c x → R (d5 a c b) ∧ AgE E (d5 a c b) c d.lhs:=fun a c ha hc hag=>by
    have hs:=hG a c ha hc hag
    refine ⟨hs,fun i hi hl=>?_⟩
    have hi2:i < n.toNat:=by rw [h.len hs] at hi;exact hi
    rw [lb (by rw [h.len hc];exact hi2),if_neg (by rw [hL i hi2 hl];decide)]
    exact h.refl _
   have hor:∀ (s t:AS) (i:Nat),i < n.toNat → c4 (s &&& t) (i:Int) = (c4 s (i:Int) && c4 t (i:Int)):=fun s t i hi=>by
    rw [cj (by omega),cj (by omega),cj (by omega),BitVec.getLsbD_and]
   have hdf:∀ (s t:AS) (i:Nat),i < n.toNat → c4 (s &&& ~~~t) (i:Int) = (c4 s (i:Int) && !c4 t (i:Int)):=fun s t i hi=>by
    rw [cj (by omega),cj (by omega),cj (by omega),bw (by omega)]
   rcases va.1 hd with hm | ⟨f,hf,a0,hal,hfa,rfl⟩
   · constructor
     · intro a c ha hc hag
       obtain ⟨h1,h2⟩:=key a c ha hc hag
       have h3:=h.mv hm h1 hc h2
       refine uj h h3 ha hc fun i hi=>?_
       rw [lb (by rw [h.len hc];exact hi),lb (by rw [h.len hc];exact hi),hor _ _ i hi,xv]
       have hli:=hL i hi
       cases h4:c4 d.lhs (i:Int) <;> cases h5:c4 d.rhs (i:Int) <;> cases h6:c4 b (i:Int) <;> simp_all <;> exact h.refl _
     · intro a c ha hc hag
       obtain ⟨h1,h2⟩:=key a c ha hc hag
       have h2':AgE E c (d5 a c b) d.lhs:=fun i hi hl=>h.symm (h2 i (by rw [h.len h1];rw [h.len hc] at hi;exact hi) hl)
       have h3:=h.mv hm hc h1 h2'
       refine uj h h3 ha hc fun i hi=>?_
       rw [lb (by rw [h.len h1];exact hi),lb (by rw [h.len hc];exact hi),hdf _ _ i hi,xv]
       have hli:=hL i hi
       cases h4:c4 d.lhs (i:Int) <;> cases h5:c4 d.rhs (i:Int) <;> cases h6:c4 b (i:Int) <;> simp_all <;> exact h.refl _
   · have hba:b.getLsbD a0 = true:=by
      obtain ⟨i,hi,h1,h2⟩:=s8 s2
      rw [du hal hi] at h2
      have:i = a0:=by simpa using h2
      rw [← this];exact h1
     have hone:∀ a c,R a → R c → AgE E a c x → a0 < n.toNat → E (a.getD a0 default) (c.getD a0 default):=fun a c ha hc hag hlt=>by
      obtain ⟨h1,h2⟩:=key a c ha hc hag
      have h3:=h.fd hf h1 hc h2 a0 (by rw [h.len h1];exact hlt) (by rw [cj hal];exact hfa)
      rw [lb (by rw [h.len hc];exact hlt),if_pos (by rw [cj hal];exact hba)] at h3
      exact h3
     constructor
     · intro a c ha hc hag
       refine uj h hc ha hc fun i hi=>?_
       show E _ (if c4 (b &&& fu a0) (i:Int) = true then _ else _)
       split
       · rename_i hh
         rw [hor _ _ i hi,Bool.and_eq_true,cj (s:=fu a0) (by omega),du hal (by omega),decide_eq_true_eq] at hh
         obtain rfl:=hh.2
         exact h.symm (hone a c ha hc hag hi)
       · exact h.refl _
     · intro a c ha hc hag
       obtain ⟨h1,_⟩:=key a c ha hc hag
       refine uj h h1 ha hc fun i hi=>?_
       show E _ (if c4 (b &&& ~~~fu a0) (i:Int) = true then _ else _)
       rw [lb (by rw [h.len hc];exact hi),hdf _ _ i hi,cj (s:=fu a0) (by omega),du hal (by omega)]
       by_cases e:i = a0
       · subst e
         rw [if_pos (by rw [cj hal];exact hba)]
         simp only [decide_true,Bool.not_true,Bool.and_false,Bool.false_eq_true,if_false]
         exact hone a c ha hc hag hi
       · simp only [e,decide_false,Bool.not_false,Bool.and_true]
         exact h.refl _
theorem azk {s:AS} {v:Fd} (h:bc n p m s = some v):sub v.lhs s ∧ ∃ b ∈ blks (fq p m) (af n &&& ~~~v.lhs),v.rhs = b &&& s:=by
 unfold bc at h
 obtain ⟨x,hx,hv⟩:=List.exists_of_findSome?_eq_some h
 have hxp:=vf hx
 unfold wo at hv
 split at hv
 · cases hv
 · split at hv
   · rename_i hlen
     cases hv
     have m0:=gv (l:=ge n p m x s) (i:=0) (by omega)
     obtain ⟨b,hb,_,e⟩:=a4k.1 m0
     exact ⟨hxp,b,hb,e⟩
   · cases hv
theorem ajb (h8:n ≤ 8) (h:Mdl n.toNat p m E R) {s:AS} (hv:vBo (bc n p m) s = true) (h1:ww E R (i9 (bc n p m) s)) (h2:ww E R (gl (bc n p m) s)):ww E R s:=by
 obtain ⟨hx,b,hb,hr⟩:=azk (um hv)
 have hbk:=(x6 (fq p m) (af n &&& ~~~(vF (bc n p m) s).lhs)).1
 have hG:=ape h8 h hbk b hb
 have hbx:=b5.1 (hbk.sub hb)
 unfold i9 at h1
 unfold gl at h2
 generalize vF (bc n p m) s = v at *
 obtain ⟨r1,a1,e1⟩:=h1
 obtain ⟨r2,a2,e2⟩:=h2
 have l1:=h.len a1
 have l2:=h.len a2
 have hnb:∀ i:Nat,i < n.toNat → c4 v.lhs (i:Int) = true → c4 b (i:Int) = false:=fun i hi hl=>by
  rw [cj (by omega)] at hl ⊢
  cases hbi:b.getLsbD i with
  | false=>rfl
  | true =>
   have:=hbx i (by omega) hbi
   rw [bw (by omega),hl] at this
   simp at this
 have hx2:∀ i:Nat,i < n.toNat → c4 v.lhs (i:Int) = true → c4 (s &&& ~~~v.rhs) (i:Int) = true:=fun i hi hl=>by
  have hb0:=hnb i hi hl
  rw [cj (by omega)] at hl hb0 ⊢
  rw [bw (by omega),hr,BitVec.getLsbD_and,hb0,b5.1 hx i (by omega) hl]
  rfl
 have hag:AgE E r1 r2 v.lhs:=fun i hi hl=>by
  have hi2:i < n.toNat:=by omega
  exact h.trans (e1 i hi (by rw [xv,hl];rfl)) (h.symm (e2 i (by omega) (hx2 i hi2 hl)))
 refine ⟨d5 r1 r2 b,hG r1 r2 a1 a2 hag,fun i hi hs=>?_⟩
 have hi2:i < n.toNat:=by rw [ju,l2] at hi;exact hi
 rw [lb (by omega)]
 split
 · rename_i hbi
   refine e1 i (by omega) ?_
   rw [xv,Bool.or_eq_true]
   right
   rw [cj (by omega)] at hbi hs ⊢
   rw [hr,BitVec.getLsbD_and,hbi,hs]
   rfl
 · rename_i hbi
   refine e2 i (by omega) ?_
   rw [cj (by omega)] at hbi hs ⊢
   rw [bw (by omega),hs,hr,BitVec.getLsbD_and,Bool.eq_false_iff.2 hbi]
   rfl
theorem ac8 (h8:n ≤ 8) (h:Mdl n.toNat p m E R):∀ (k:Nat) (s:AS),(∀ q,q ∈ lvG (bc n p m) k s → ww E R q) → ww E R s
 | 0,s,hq=>hq s (by simp [lvG])
 | k + 1,s,hq=>by
  cases hv:vBo (bc n p m) s with
  | false=>exact hq s (by rw [a57 hv];simp)
  | true =>
   rw [a61 hv] at hq
   exact ajb h8 h hv (ac8 h8 h k _ fun q hm=>hq q (List.mem_append_left _ hm)) (ac8 h8 h k _ fun q hm=>hq q (List.mem_append_right _ hm))
end
section
variable {n:Int} {p m:List Fd}
theorem x5 (h:ck4 n p m 0 = 0):kj n p m = ip (lvG (bc n p m) 9 (af n)):=by rw [ads h,alw (kz h).2.1]
theorem aab (h:ck4 n p m 0 = 0):LR n.toNat p m (bj n (kj n p m)) (ct n):=fun E R hm hl=>by
 obtain ⟨h0,h8,_⟩:=kz h
 refine al8 (by omega) hm (ac8 h8 hm 9 (af n) fun q hq=>?_)
 rw [x5 h] at hl
 obtain ⟨y,hy,hqy⟩:=a8j hq
 exact (amn h0 hm hl hy).mono hqy
theorem a4o:∀ (k:Nat) (s:AS),sub s (orL (lvG (bc n p m) k s))
 | 0,s=>qu (by simp [lvG])
 | k + 1,s=>by
  cases hv:vBo (bc n p m) s with
  | false=>rw [a57 hv];exact qu (by simp)
  | true =>
   rw [a61 hv]
   have h1:=a4o k (i9 (bc n p m) s)
   have h2:=a4o k (gl (bc n p m) s)
   refine b5.2 fun i hi hb=>?_
   have hor:∀ A B:List AS,(orL A).getLsbD i = true ∨ (orL B).getLsbD i = true → (orL (A ++ B)).getLsbD i = true:=fun A B hh=>by
    rw [lq hi,List.any_append,Bool.or_eq_true,← lq hi,← lq hi]
    exact hh
   refine hor _ _ ?_
   cases hr:(vF (bc n p m) s).rhs.getLsbD i with
   | true=>exact .inl (b5.1 h1 i hi (by unfold i9;rw [BitVec.getLsbD_or,hr,Bool.or_true]))
   | false=>exact .inr (b5.1 h2 i hi (by unfold gl;rw [bw hi,hb,hr];rfl))
theorem a78:∀ (k:Nat) (s q:AS),bsz s < k → q ∈ lvG (bc n p m) k s → vBo (bc n p m) q = false ∧ sub q s
 | 0,s,q,h,_=>absurd h (Nat.not_lt_zero _)
 | k + 1,s,q,h,hq=>by
  cases hv:vBo (bc n p m) s with
  | false =>
   rw [a57 hv,List.mem_singleton] at hq
   subst hq
   exact ⟨hv,gn _⟩
  | true =>
   rw [a61 hv] at hq
   obtain ⟨b1,b2⟩:=mh (gm n p m) hv
   obtain ⟨s1,_,_⟩:=gm n p m s _ (um hv)
   rcases List.mem_append.1 hq with hq | hq
   · obtain ⟨r1,r2⟩:=a78 k _ q (by omega) hq
     exact ⟨r1,fm r2 s1⟩
   · obtain ⟨r1,r2⟩:=a78 k _ q (by omega) hq
     exact ⟨r1,fm r2 o8⟩
theorem ang {l:List AS} {q:AS} (h:q ∈ ip l):q ∈ l:=by
 unfold ip qz at h
 exact gh.1 (List.mem_filter.1 h).1
theorem a9q (h:ck4 n p m 0 = 0) {q:AS} (hq:q ∈ kj n p m):vBo (bc n p m) q = false ∧ sub q (af n):=by
 rw [x5 h] at hq
 have hb:=yi (n:=n) (m:=8) (kz h).2.1 (by omega)
 exact a78 9 _ q (by omega) (ang hq)
theorem ard (h:ck4 n p m 0 = 0) (h6:n ≤ 6):lvE n (kj n p m) = 0:=by
 obtain ⟨h0,h8,_⟩:=kz h
 have hcov:=a4o (n:=n) (p:=p) (m:=m) 9 (af n)
 have hsub:sub (af n) (orL (kj n p m)):=by
  refine fm hcov (aev fun q hq=>?_)
  rw [x5 h]
  obtain ⟨y,hy,hqy⟩:=a8j hq
  exact fm hqy (qu hy)
 refine b2d h0 h6 (by rw [x5 h];exact ajy _) (fun q hq=>(a9q h hq).2) ?_ hsub
 have hne:∃ q,q ∈ lvG (bc n p m) 9 (af n):=by
  have:∀ (k:Nat) (s:AS),∃ q,q ∈ lvG (bc n p m) k s:=by
   intro k
   induction k with
   | zero=>intro s;exact ⟨s,by simp [lvG]⟩
   | succ k ih =>
    intro s
    cases hv:vBo (bc n p m) s with
    | false=>exact ⟨s,by rw [a57 hv];simp⟩
    | true =>
     obtain ⟨q,hq⟩:=ih (i9 (bc n p m) s)
     exact ⟨q,by rw [a61 hv];exact List.mem_append_left _ hq⟩
  exact this 9 _
 obtain ⟨q,hq⟩:=hne
 obtain ⟨y,hy,_⟩:=a8j hq
 rw [x5 h]
 exact List.length_pos_of_mem hy
theorem anr (h:ck4 n p m 0 = 0) (h6:n ≤ 6):lsC n (kj n p m) p m = 3 ∨ (lsC n (kj n p m) p m = 0 ∧ lsB n (kj n p m) p m = true ∧ pz n p m (kj n p m) = true ∧ wg n p m (kj n p m) = 0):=by
 have hv:=ard h h6
 have hb:=(uw (kz h).2.2).1
 obtain ⟨h0,h8,h64,_⟩:=l8 hv
 rcases a10 (m:=m) h64 hb with ⟨e,_⟩ | ⟨sts,lend,e,h1,_⟩
 · left
   rw [a65 hv hb]
   unfold lsT
   rw [e]
 · right
   have ec:lsC n (kj n p m) p m = 0:=by rw [a65 hv hb];unfold lsT;rw [e]
   have eB:lsB n (kj n p m) p m = true:=by
    unfold lsB lsT
    rw [ec,e,decide_eq_true rfl,Bool.true_and]
    show (lend.any fun r=>decide (r = ct n)) = true
    rw [vz,decide_eq_true_iff,h1]
    exact aab h
   refine ⟨ec,eB, ?_, ?_⟩
   · rw [a8h h,eB,Bool.true_and,List.all_eq_true]
     intro q hq
     rw [(a9q h hq).1]
     rfl
   · unfold wg
     rw [if_pos h]
     exact ec
end
end Go.Hx
end
section
namespace Go.Hx
open Go.Proofs
set_option maxRecDepth 100000
theorem b01 {n:Int} {l m:List Fd} (hz:ck4 n l m 0 = 0):ai Tryz.prog 13 [pI n,pP (fdl l),pP (fdl m)] (ao [pP (asl (kj n l m)),pI 0]):=by
 have h:=ajv n l m
 rw [hz] at h
 exact h
theorem asa {n:Int} {l m:List Fd} (hz:ck4 n l m 0 = 0):ai Tryz.prog 17 [pI n,pP (fdl l),pP (fdl m)] (ao [pP (asl (kj n l m))]):=by
 have h:=avs n l m (kz hz).2.1
 rw [← ads hz] at h
 exact h
theorem b2u (a:List AS):ai Tryz.prog 16 [pP (asl a),pP (asl a)] (ao [pB true]):=by
 have h:=aq1 a a
 rw [decide_eq_true rfl] at h
 exact h
theorem b1k {n:Int} {l m:List Fd} {ps:List AS} (hc:lsC n ps l m = 3):ai Tryz.prog 18 [pI n,pP (asl ps),pP (fdl l),pP (fdl m)] (ao [pB (lsB n ps l m),pI 3]):=by
 have h:=aps n ps l m
 rw [hc] at h
 exact h
theorem b1d {n:Int} {l m:List Fd} {ps:List AS} (hc:lsC n ps l m = 0) (hb:lsB n ps l m = true):ai Tryz.prog 18 [pI n,pP (asl ps),pP (fdl l),pP (fdl m)] (ao [pB true,pI 0]):=by
 have h:=aps n ps l m
 rw [hc,hb] at h
 exact h
theorem aky {n:Int} {l m:List Fd} {ps:List AS} (hb:pz n l m ps = true) (he:wg n l m ps = 0):ai Tryz.prog 19 [pI n,pP (fdl l),pP (fdl m),pP (asl ps)] (ao [pB true,pI 0]):=by
 have h:=ab9 n l m ps
 rw [hb,he] at h
 exact h
theorem b27 {x:Mx} (h:x.ok = true) (h5:x.d.num ≤ 6):ck4 x.d.num x.d.fds x.mv 0 = 0:=by
 obtain ⟨_,_,hb⟩:=ajh h
 obtain ⟨h0,_⟩:=a5o x.d
 rw [vn (by omega)]
 exact a2w hb (by simp)
theorem b0q (x:Mx) (hl:x.d.l.length ≤ 16777216) (hm:x.m.length ≤ 16777216):ai Tryz.prog 3 [x.pc] (ao [pB true]):=by
 refine ah (nt:=79) ae Tryz.func3 rfl rfl l9 ?_;refine sx7 ?_;refine m9 0 ?_;refine qy ?_;refine a6 ?_;refine sx7 ?_;refine qy ?_
 refine rc rfl rfl rfl rfl rfl rfl ane (at2 x hl hm) (CoL.refl _) rfl rfl ?_;(iterate 9 refine qy ?_);refine a6 ?_;refine a7 ?_;refine sx7 ?_
 refine rc rfl rfl rfl rfl rfl rfl tv (o6) (CoL.refl _) rfl rfl ?_;(iterate 6 refine qy ?_);refine b4 rfl rfl (fun r0=>?_) (fun r0=>?_)
 ·
  have h0:=r0
  have h0:=av h0
  (iterate 2 refine k9 (gtf r0) ?_);refine rq rfl rfl rfl rfl rfl ?_ (hp:=r0);refine a6 ?_;refine a8 _ rfl (fun _=>?_) (fun e=>by cases e);refine sx7 ?_
  refine rc rfl rfl rfl rfl rfl rfl tv (o6) (CoL.refl _) rfl rfl ?_;refine qy ?_;refine a6 ?_
  exact hx8 rfl rfl rfl (CoL.refl _)
 ·
  have h0:=r0
  have h0:=aw h0
  (iterate 2 refine qy ?_ (hg:=(gff r0)));refine qy ?_;refine a6 ?_;refine a8 _ rfl (fun r1=>?_) (fun r1=>?_)
  ·
   have h1:=r1
   have h1:=bg r0 h1
   have h1:=of_decide_eq_true h1
   try simp only [ty] at h1
   refine sx7 ?_;refine rc rfl rfl rfl rfl rfl rfl tv (o6) (CoL.refl _) rfl rfl ?_;refine qy ?_;refine a6 ?_
   exact hx8 rfl rfl rfl (CoL.refl _)
  ·
   have h1:=r1
   have h1:=bg r0 h1
   have h1:=of_decide_eq_false h1
   try simp only [ty] at h1
   have h5:x.d.num ≤ 6:=(a5o x.d).2
   have hok:x.ok = true:=by simp_all
   obtain ⟨hx6,hx4,_⟩:=ajh hok
   have hfl:x.d.fds.length ≤ 6:=by unfold Dps.fds;rw [List.length_map];exact hx6
   have hml:x.mv.length ≤ 4:=by unfold Mx.mv;rw [List.length_map];exact hx4
   have hz:=b27 hok h5
   refine aa ?_;refine sx7 ?_;(iterate 2 refine qy ?_);refine rc rfl rfl rfl rfl rfl rfl alr (aec x.d.fds.length false (lf Fd.c x.d.fds) (by omega)) (CoL.refl _) rfl rfl ?_;refine qy ?_
   refine rc rfl rfl rfl rfl rfl rfl adc (agl x.mv.length false (lf Fd.c x.mv) (by omega)) (CoL.refl _) rfl rfl ?_;refine rc rfl rfl rfl rfl rfl rfl abc (b01 hz) (CoL.refl _) rfl rfl ?_;(iterate 5 refine qy ?_)
   refine a6 ?_;refine a7 ?_;refine sx7 ?_;(iterate 7 refine qy ?_);refine rc rfl rfl rfl rfl rfl rfl aya (asa hz) (CoL.refl _) rfl rfl ?_
   refine rc rfl rfl rfl rfl rfl rfl ad1 (b2u (kj x.d.num x.d.fds x.mv)) (CoL.refl _) rfl rfl ?_;(iterate 2 refine qy ?_);refine a6 ?_;refine a8 _ rfl (fun e=>by cases e) (fun _=>?_);refine aa ?_
   refine a7 ?_
   rcases anr hz h5 with h3 | ⟨hc0,hB,hkB,hkE⟩
   ·
    refine gy ?_;(iterate 4 refine qy ?_);refine rc rfl rfl rfl rfl rfl rfl ady (b1k h3) (CoL.refl _) rfl rfl ?_;(iterate 5 refine qy ?_);refine a6 ?_;refine a7 ?_;refine sx7 ?_;(iterate 2 refine qy ?_)
    refine a6 ?_;refine a8 _ rfl (fun r2=>?_) (fun r2=>?_)
    ·
     have h2:=r2
     have h2:=of_decide_eq_false (av h2)
     try simp only [ty] at h2
     refine sx7 ?_;(iterate 3 refine qy ?_);refine a6 ?_
     exact hx8 rfl rfl rfl (CoL.refl _)
    ·
     have h2:=r2
     have h2:=of_decide_eq_true (aw h2)
     try simp only [ty] at h2
     cases r2
   ·
    refine gy ?_;(iterate 4 refine qy ?_);refine rc rfl rfl rfl rfl rfl rfl ady (b1d hc0 hB) (CoL.refl _) rfl rfl ?_;(iterate 5 refine qy ?_);refine a6 ?_;refine a7 ?_;refine sx7 ?_;(iterate 2 refine qy ?_)
    refine a6 ?_;refine a8 _ rfl (fun r3=>?_) (fun r3=>?_)
    ·
     have h3:=r3
     have h3:=of_decide_eq_false (av h3)
     try simp only [ty] at h3
     cases r3
    ·
     have h3:=r3
     have h3:=of_decide_eq_true (aw h3)
     try simp only [ty] at h3
     refine aa ?_;refine sx7 ?_;(iterate 4 refine qy ?_);refine rc rfl rfl rfl rfl rfl rfl ak6 (aky hkB hkE) (CoL.refl _) rfl rfl ?_;(iterate 5 refine qy ?_);refine a6 ?_;refine sx7 ?_
     (iterate 9 refine qy ?_);refine a6 ?_
     exact hx8 rfl rfl rfl (CoL.refl _)
end Go.Hx
end

/- A part of the proof: Bz11 Ds14 Dw14 Ls10 Ds15 Ds16 Hx28. -/
import Derived.Laws.IdiomRangeMap
import Derived.Test.YtkkenjdfbojdlaaGreatDoorMx40
set_option linter.all false
set_option maxRecDepth 100000
set_option maxHeartbeats 1000000
namespace Go.Hx
section
section
variable {n:Int} {p m:List Fd} {E:Int -> Int -> Prop} {R:Rw -> Prop}
def bk4 (E:Int -> Int -> Prop) (R:Rw -> Prop) (x b:AS):Prop:=∀ a c,R a -> R c -> AgE E a c x -> R (er a c b)
def a1f (h:Mdl n.toNat p m E R) {a c r:Rw} {b:AS} (hr:R r) (ha:R a) (hc:R c) (he:∀ i,i < n.toNat -> E (r.getD i default) (if bw b (i:Int) = true then a.getD i default else c.getD i default)):R (er a c b):=by
 have la:=h.len ha;have lc:=h.len hc;have lr:=h.len hr;refine h.cong hr (by rw [nq,lc,lr]) fun i hi=>?_;rw [qn bsq];exact he i bsq
def b1q (h8:n <= 8) (h:Mdl n.toNat p m E R) {x:AS} {bs:List AS} (hb:Blk (j5 p m) (a6 n &&& ~~~x) bs):∀ b ∈ bs,bk4 E R x b:=by
 have hN:n.toNat <= 8:=by omega
 refine hb.ind _ (fun a c ha hc hag=>?_) fun d hd b hG hsp=>?_
 · refine a1f h ha ha hc fun i hi=>?_
   split
   · exact h.refl _
   rename_i hh;refine hag i (by rw [h.len ha];exact hi) ?_;rw [cb bsq] at hh ⊢;rw [c7 bsq] at hh;have hf:=aod (n:=n) (i:=i) bsq hi;rw [cb bsq] at hf;rw [hf] at hh;simpa using hh
 obtain ⟨s1,s2,s3⟩:=rp.1 hsp
 have hL:∀ i:Nat,i < n.toNat -> bw d.lhs (i:Int) = true -> bw b (i:Int) = false:=fun i hi hl=>by
  rw [cb bsq] at hl ⊢
  cases hbi:b.getLsbD i with
  | false=>rfl
  | true=>rw [k7.1 s1 i bsq hbi] at hl;cases hl
 have key:∀ a c,R a -> R c -> AgE E a c x -> R (er a c b) /\ AgE E (er a c b) c d.lhs:=fun a c ha hc hag=>by
  have hs:=hG a c ha hc hag;refine ⟨hs,fun i hi hl=>?_⟩;have hi2:i < n.toNat:=by rw [h.len hs] at hi;exact hi
  rw [qn (by rw [h.len hc];exact hi2),if_neg (by rw [hL i hi2 hl];decide)];exact h.refl _
 have hor:∀ (s t:AS) (i:Nat),i < n.toNat -> bw (s &&& t) (i:Int) = (bw s (i:Int) && bw t (i:Int)):=fun s t i hi=>by
  rw [cb bsq,cb bsq,cb bsq,boh]
 have hdf:∀ (s t:AS) (i:Nat),i < n.toNat -> bw (s &&& ~~~t) (i:Int) = (bw s (i:Int) && !bw t (i:Int)):=fun s t i hi=>by
  rw [cb bsq,cb bsq,cb bsq,c7 bsq]
 rcases a1t.1 hd with hm | ⟨f,hf,a0,hal,hfa,rfl⟩
 · constructor
   · intro a c ha hc hag
     obtain ⟨h1,h2⟩:=key a c ha hc hag;have h3:=h.mv hm h1 hc h2;refine a1f h h3 ha hc fun i hi=>?_;rw [qn (by rw [h.len hc];exact hi),qn (by rw [h.len hc];exact hi),hor _ _ i hi,xc];have hli:=hL i hi;cases h4:bw d.lhs (i:Int) <;> cases h5:bw d.rhs (i:Int) <;> cases h6:bw b (i:Int) <;> simp_all <;> exact h.refl _
   intro a c ha hc hag;obtain ⟨h1,h2⟩:=key a c ha hc hag;have h2':AgE E c (er a c b) d.lhs:=fun i hi hl=>h.symm (h2 i (by rw [h.len h1];rw [h.len hc] at hi;exact hi) hl);have h3:=h.mv hm hc h1 h2';refine a1f h h3 ha hc fun i hi=>?_;rw [qn (by rw [h.len h1];exact hi),qn (by rw [h.len hc];exact hi),hdf _ _ i hi,xc];have hli:=hL i hi;cases h4:bw d.lhs (i:Int) <;> cases h5:bw d.rhs (i:Int) <;> cases h6:bw b (i:Int) <;> simp_all <;> exact h.refl _
 have hba:b.getLsbD a0 = true:=by
  obtain ⟨i,hi,h1,h2⟩:=z6 s2;rw [fp hal hi] at h2;have:i = a0:=by simpa using h2
  rw [<- this];exact h1
 have hone:∀ a c,R a -> R c -> AgE E a c x -> a0 < n.toNat -> E (a.getD a0 default) (c.getD a0 default):=fun a c ha hc hag hlt=>by
  obtain ⟨h1,h2⟩:=key a c ha hc hag;have h3:=h.fd hf h1 hc h2 a0 (by rw [h.len h1];exact hlt) (by rw [cb hal];exact hfa);rw [qn (by rw [h.len hc];exact hlt),if_pos (by rw [cb hal];exact hba)] at h3;exact h3
 constructor
 · intro a c ha hc hag
   refine a1f h hc ha hc fun i hi=>?_;show E _ (if bw (b &&& j8 a0) (i:Int) = true then _ else _);split
   · rename_i hh
     rw [hor _ _ i hi,boc,cb (s:=j8 a0) bsq,fp hal bsq,decide_eq_true_eq] at hh;obtain rfl:=hh.2;exact h.symm (hone a c ha hc hag hi)
   exact h.refl _
 intro a c ha hc hag;obtain ⟨h1,_⟩:=key a c ha hc hag;refine a1f h h1 ha hc fun i hi=>?_;show E _ (if bw (b &&& ~~~j8 a0) (i:Int) = true then _ else _);rw [qn (by rw [h.len hc];exact hi),hdf _ _ i hi,cb (s:=j8 a0) bsq,fp hal bsq];by_cases e:i = a0
 · subst e
   rw [if_pos (by rw [cb hal];exact hba)];simp only [decide_true,br6,bso,bpe,if_false];exact hone a c ha hc hag hi
 simp only [e,decide_false,bs1,Bool.and_true];exact h.refl _
def beh {s:AS} {v:Fd} (h:d8 n p m s = some v):sub v.lhs s /\ ∃ b ∈ blks (j5 p m) (a6 n &&& ~~~v.lhs),v.rhs = b &&& s:=by
 unfold d8 at h;obtain ⟨x,hx,hv⟩:=bqt h;have hxp:=a2c hx;unfold a3f at hv;split at hv
 · cases hv
 split at hv
 · rename_i hlen
   cases hv;have m0:=pj (l:=jb n p m x s) (i:=0) bsq;obtain ⟨b,hb,_,e⟩:=ac8.1 m0;exact ⟨hxp,b,hb,e⟩
 cases hv
def avy (h8:n <= 8) (h:Mdl n.toNat p m E R) {s:AS} (hv:vBo (d8 n p m) s = true) (h1:po E R (o6 (d8 n p m) s)) (h2:po E R (o7 (d8 n p m) s)):po E R s:=by
 obtain ⟨hx,b,hb,hr⟩:=beh (a63 hv);have hbk:=(a3j (j5 p m) (a6 n &&& ~~~(vF (d8 n p m) s).lhs)).1;have hG:=b1q h8 h hbk b hb;have hbx:=ae.1 (hbk.sub hb);unfold o6 at h1;unfold o7 at h2;generalize vF (d8 n p m) s = v at *;obtain ⟨r1,a1,e1⟩:=h1;obtain ⟨r2,a2,e2⟩:=h2;have l1:=h.len a1;have l2:=h.len a2
 have hnb:∀ i:Nat,i < n.toNat -> bw v.lhs (i:Int) = true -> bw b (i:Int) = false:=fun i hi hl=>by
  rw [cb bsq] at hl ⊢
  cases hbi:b.getLsbD i with
  | false=>rfl
  | true =>
   have:=hbx i bsq hbi;rw [c7 bsq,hl] at this;simp at this
 have hx2:∀ i:Nat,i < n.toNat -> bw v.lhs (i:Int) = true -> bw (s &&& ~~~v.rhs) (i:Int) = true:=fun i hi hl=>by
  have hb0:=hnb i hi hl;rw [cb bsq] at hl hb0 ⊢;rw [c7 bsq,hr,boh,hb0,ae.1 hx i bsq hl];rfl
 have hag:AgE E r1 r2 v.lhs:=fun i hi hl=>by
  have hi2:i < n.toNat:=by omega
  exact h.trans (e1 i hi (by rw [xc,hl];rfl)) (h.symm (e2 i bsq (hx2 i hi2 hl)))
 refine ⟨er r1 r2 b,hG r1 r2 a1 a2 hag,fun i hi hs=>?_⟩;have hi2:i < n.toNat:=by rw [nq,l2] at hi;exact hi
 rw [qn bsq];split
 · rename_i hbi
   refine e1 i bsq ?_;rw [xc,bph];right;rw [cb bsq] at hbi hs ⊢;rw [hr,boh,hbi,hs];rfl
 rename_i hbi;refine e2 i bsq ?_;rw [cb bsq] at hbi hs ⊢;rw [c7 bsq,hs,hr,boh,bol.2 hbi];rfl
def ap5 (h8:n <= 8) (h:Mdl n.toNat p m E R):∀ (k:Nat) (s:AS),(∀ q,q ∈ lvG (d8 n p m) k s -> po E R q) -> po E R s
 | 0,s,hq=>hq s (by simp [lvG])
 | k + 1,s,hq=>by
  cases hv:vBo (d8 n p m) s with
  | false=>exact hq s (by rw [aki hv];simp)
  | true =>
   rw [akg hv] at hq;exact avy h8 h hv (ap5 h8 h k _ fun q hm=>hq q (boq _ hm)) (ap5 h8 h k _ fun q hm=>hq q (bos _ hm))
end
section
variable {n:Int} {p m:List Fd}
def a4s (h:ck4 n p m 0 = 0):xl n p m = ef (lvG (d8 n p m) 9 (a6 n)):=by rw [b00 h,bhp (yn h).2.1]
def ak4 (h:ck4 n p m 0 = 0):LR n.toNat p m (bj n (xl n p m)) (cg n):=fun E R hm hl=>by
 obtain ⟨h0,h8,_⟩:=yn h;refine a7i bsq hm (ap5 h8 hm 9 (a6 n) fun q hq=>?_);rw [a4s h] at hl;obtain ⟨y,hy,hqy⟩:=n5 hq;exact (a7t h0 hm hl hy).mono hqy
def ac2:∀ (k:Nat) (s:AS),sub s (orL (lvG (d8 n p m) k s))
 | 0,s=>sq (by simp [lvG])
 | k + 1,s=>by
  cases hv:vBo (d8 n p m) s with
  | false=>rw [aki hv];exact sq bst
  | true =>
   rw [akg hv];have h1:=ac2 k (o6 (d8 n p m) s);have h2:=ac2 k (o7 (d8 n p m) s);refine ae.2 fun i hi hb=>?_
   have hor:∀ A B:List AS,(orL A).getLsbD i = true \/ (orL B).getLsbD i = true -> (orL (A ++ B)).getLsbD i = true:=fun A B hh=>by
    rw [se hi,List.any_append,bph,<- se hi,<- se hi];exact hh
   refine hor _ _ ?_
   cases hr:(vF (d8 n p m) s).rhs.getLsbD i with
   | true=>exact .inl (ae.1 h1 i hi (by unfold o6;rw [bpj,hr,bsp]))
   | false=>exact .inr (ae.1 h2 i hi (by unfold o7;rw [c7 hi,hb,hr];rfl))
def agq:∀ (k:Nat) (s q:AS),bsz s < k -> q ∈ lvG (d8 n p m) k s -> vBo (d8 n p m) q = false /\ sub q s
 | 0,s,q,h,_=>absurd h (bod _)
 | k + 1,s,q,h,hq=>by
  cases hv:vBo (d8 n p m) s with
  | false =>
   rw [aki hv,bom] at hq;subst hq;exact ⟨hv,df _⟩
  | true =>
   rw [akg hv] at hq;obtain ⟨b1,b2⟩:=zf (up n p m) hv;obtain ⟨s1,_,_⟩:=up n p m s _ (a63 hv)
   rcases boj.1 hq with hq | hq
   · obtain ⟨r1,r2⟩:=agq k _ q bsq hq
     exact ⟨r1,ak r2 s1⟩
   obtain ⟨r1,r2⟩:=agq k _ q bsq hq;exact ⟨r1,ak r2 d6⟩
def ayw {l:List AS} {q:AS} (h:q ∈ ef l):q ∈ l:=by
 unfold ef wt at h;exact gn.1 (bpq.1 h).1
def ajo (h:ck4 n p m 0 = 0) {q:AS} (hq:q ∈ xl n p m):vBo (d8 n p m) q = false /\ sub q (a6 n):=by
 rw [a4s h] at hq;have hb:=y7 (n:=n) (m:=8) (yn h).2.1 bsq;exact agq 9 _ q bsq (ayw hq)
def b3g (h:ck4 n p m 0 = 0) (h6:n <= 6):lvE n (xl n p m) = 0:=by
 obtain ⟨h0,h8,_⟩:=yn h;have hcov:=ac2 (n:=n) (p:=p) (m:=m) 9 (a6 n)
 have hsub:sub (a6 n) (orL (xl n p m)):=by
  refine ak hcov (a85 fun q hq=>?_);rw [a4s h];obtain ⟨y,hy,hqy⟩:=n5 hq;exact ak hqy (sq hy)
 refine akt h0 h6 (by rw [a4s h];exact vz _) (fun q hq=>(ajo h hq).2) ?_ hsub
 have hne:∃ q,q ∈ lvG (d8 n p m) 9 (a6 n):=by
  have:∀ (k:Nat) (s:AS),∃ q,q ∈ lvG (d8 n p m) k s:=by
   intro k
   induction k with
   | zero=>intro s;exact ⟨s,by simp [lvG]⟩
   | succ k ih =>
    intro s
    cases hv:vBo (d8 n p m) s with
    | false=>exact ⟨s,by rw [aki hv];simp⟩
    | true =>
     obtain ⟨q,hq⟩:=ih (o6 (d8 n p m) s);exact ⟨q,by rw [akg hv];exact boq _ hq⟩
  exact this 9 _
 obtain ⟨q,hq⟩:=hne;obtain ⟨y,hy,_⟩:=n5 hq;rw [a4s h];exact bsk hy
end
end
section
abbrev SI:=Bool × Int × Int × Int
abbrev SI.c (s:SI):Nat -> PV:=fun j=>[.raw (.bool s.1), .raw (.int .i64 s.2.1), .raw (.int .i64 s.2.2.1), .raw (.int .i64 s.2.2.2)].getD j .any
abbrev sil (l:List SI):PV:=psl 4 SI.c l
def a1i (s:St):SI:=(s.1,(s.2.1:Int),(s.2.2.1:Int),(s.2.2.2:Int))
def awq {q:List St}:CoP (stl q) (sil (q.map a1i)):=CoP.sl bst (.inl rfl) (fun h=>h) fun i j hi hj=>CoP.of_eq (by
 have hi:i < q.length:=hi;simp only [lf,bo7,boy,bo6 hi]
 rfl)
abbrev bgv (ps:List AS) (c:Int) (l:List SI):PC:=.agg [asl ps, .raw (.int .i64 c),sil l]
section
variable {n c:Int} {l m:List Fd} {ps:List AS} {q:List SI} {i:Nat}
def ru1 (l m:List Fd) (t:Int × List Rw × Int) (s:SI):Int × List Rw × Int:=if t.2.2 = 0 then dv t.1 t.2.1 l m s.1 s.2.1 s.2.2.1 s.2.2.2 else t
def ruL (n:Int) (ps:List AS) (l m:List Fd) (q:List SI):Int × List Rw × Int:=q.foldl (ru1 l m) (n,tb0 n ps,0)
def b6k (hi:i < q.length) (he:(ruL n ps l m (q.take i)).2.2 = 0) :
 ruL n ps l m (q.take (i + 1)) = dv (ruL n ps l m (q.take i)).1 (ruL n ps l m (q.take i)).2.1 l m (q.getD i default).1 (q.getD i default).2.1 (q.getD i default).2.2.1 (q.getD i default).2.2.2:=by
 unfold ruL at he ⊢;rw [aw hi,bpk];exact if_pos he
def b76 {t:Int × List Rw × Int} (h:¬ t.2.2 = 0):∀ q:List SI,q.foldl (ru1 l m) t = t
 | []=>rfl
 | s :: q=>by
  rw [bq6,show ru1 l m t s = t from if_neg h];exact b76 h q
def bfv (h:¬ (ruL n ps l m (q.take i)).2.2 = 0):ruL n ps l m (q.take i) = ruL n ps l m q:=by
 have e:q = q.take i ++ q.drop i:=(brd i q).symm
 have:ruL n ps l m q = (q.drop i).foldl (ru1 l m) (ruL n ps l m (q.take i)):=by
  unfold ruL;rw [<- bpk,<- e]
 rw [this,b76 h]
def qt (n:Int) (ps:List AS) (l m:List Fd) (q:List SI):Bool:=if lvE n ps = 0 /\ be n l m = 0 then decide ((ruL n ps l m q).2.2 = 0) && ke n (ruL n ps l m q).2.1 else false
def b6c (h:¬ lvE n ps = 0):qt n ps l m q = false:=if_neg fun e=>h e.1
def b7j (h:¬ be n l m = 0):qt n ps l m q = false:=if_neg fun e=>h e.2
def b6f (hv:lvE n ps = 0) (hb:be n l m = 0) (hi:ruL n ps l m (q.take i) = ruL n ps l m q) (h:(ruL n ps l m (q.take i)).2.2 = 0):qt n ps l m q = ke n (ruL n ps l m (q.take i)).2.1:=by
 unfold qt;rw [if_pos ⟨hv,hb⟩,<- hi,decide_eq_true h];rfl
def avl (hv:lvE n ps = 0) (hb:be n l m = 0) (hi:ruL n ps l m (q.take i) = ruL n ps l m q) (h:¬ (ruL n ps l m (q.take i)).2.2 = 0):qt n ps l m q = false:=by
 unfold qt;rw [if_pos ⟨hv,hb⟩,<- hi,decide_eq_false h];rfl
def biu (hv:lvE n ps = 0) (hb:be n l m = 0) (h:¬ (ruL n ps l m (q.take i)).2.2 = 0):qt n ps l m q = false:=avl hv hb (bfv h) h
def a1k (n:Int) (l m:List Fd) (ps:List AS) (c:Int) (q:List SI):Bool :=
 if lvE n ps = 0 /\ be n l m = 0 /\ 0 <= c /\ c <= 31 then (if ap .andNot .i64 (ap .andNot .i64 c 1) (oc n l m ps) = 0 then (bif decide (ap .and .i64 c 1 = 0) then true else qt n ps l m q) else false) else false
def a2l (h:¬ (lvE n ps = 0 /\ be n l m = 0 /\ 0 <= c /\ c <= 31)):a1k n l m ps c q = false:=if_neg h
def bkc (h:lvE n ps = 0 /\ be n l m = 0 /\ 0 <= c /\ c <= 31) (h2:¬ ap .andNot .i64 (ap .andNot .i64 c 1) (oc n l m ps) = 0):a1k n l m ps c q = false:=by
 unfold a1k;rw [if_pos h,if_neg h2]
def b63 (h:lvE n ps = 0 /\ be n l m = 0 /\ 0 <= c /\ c <= 31) (h2:ap .andNot .i64 (ap .andNot .i64 c 1) (oc n l m ps) = 0):a1k n l m ps c q = (bif decide (ap .and .i64 c 1 = 0) then true else qt n ps l m q):=by
 unfold a1k;rw [if_pos h,if_pos h2]
def a5w (n:Int) (l m:List Fd) (ps:List AS):Int:=if ij l ps = true then ap .or .i64 (fmI n l m ps) 2 else fmI n l m ps
def agr (n:Int) (l m:List Fd) (ps:List AS) (c:Int) (q:List SI):Int:=if ¬ ap .and .i64 c 1 = 0 /\ qt n ps l m q = true then ap .or .i64 (a5w n l m ps) 1 else a5w n l m ps
def bfn (h:((ca l ps l.length).length:Int) = 0):ap .or .i64 (fmI n l m ps) 2 = a5w n l m ps:=(if_pos (ad1.symm.trans (decide_eq_true h))).symm
def bio (h:¬ ((ca l ps l.length).length:Int) = 0):fmI n l m ps = a5w n l m ps:=(if_neg (by rw [ad1.symm.trans (decide_eq_false h)];exact bre)).symm
def bhj (h:¬ ap .and .i64 c 1 = 0) (h2:qt n ps l m q = true):ap .or .i64 (a5w n l m ps) 1 = agr n l m ps c q:=(if_pos ⟨h,h2⟩).symm
def bgb (h2:qt n ps l m q = false):a5w n l m ps = agr n l m ps c q:=(if_neg (by rw [h2];exact fun e=>bre e.2)).symm
def bfc (h:ap .and .i64 c 1 = 0):a5w n l m ps = agr n l m ps c q:=(if_neg (fun e=>e.1 h)).symm
def bab:∀ c:Fin 32,∀ a b d e f:Bool,decide (ap .andNot .i64 (c.val:Int) (if ¬ ap .and .i64 (c.val:Int) 1 = 0 /\ f = true then ap .or .i64 (if a = true then ap .or .i64 (jw false b d e) 2 else jw false b d e) 1 else (if a = true then ap .or .i64 (jw false b d e) 2 else jw false b d e)) = 0) =
 (if ap .andNot .i64 (ap .andNot .i64 (c.val:Int) 1) (jw a b d e) = 0 then (bif decide (ap .and .i64 (c.val:Int) 1 = 0) then true else f) else false):=by decide +kernel
def ba6 (h:lvE n ps = 0 /\ be n l m = 0 /\ 0 <= c /\ c <= 31):decide (ap .andNot .i64 c (agr n l m ps c q) = 0) = a1k n l m ps c q:=by
 obtain ⟨h1,h2,h3,h4⟩:=h;rw [show a1k n l m ps c q = (if ap .andNot .i64 (ap .andNot .i64 c 1) (oc n l m ps) = 0 then (bif decide (ap .and .i64 c 1 = 0) then true else qt n ps l m q) else false) from if_pos ⟨h1,h2,h3,h4⟩];unfold agr a5w;rw [bcx ⟨h1,h2⟩];unfold oc;generalize ij l ps = A;generalize ps.all (thB n l) = B;generalize ps.all (byB l) = C;generalize ps.all (foB n l m) = D;generalize qt n ps l m q = F;obtain ⟨k,rfl⟩:=Int.eq_ofNat_of_zero_le h3;exact bab ⟨k,by omega⟩ A B C D F
end
end
section
open Go.Proofs
def bds (n:Int) (ps:List AS) (l m:List Fd) (q:List SI):a7 btb 66 [pI n,pP (asl ps),pP (fdl l),pP (fdl m),pP (sil q)] (aa [pB (qt n ps l m q)]):=by
 refine hpx (nt:=57) Tryz.func66 ?_;refine w_6 ?_;refine cq 4 rfl fun hlen=>?_;refine w_3 ?_;refine qcx ae3 (a9f n ps) ?_;refine w_2 ?_;refine ai rfl rfl (fun r0=>?_) (fun r0=>?_)
 ·
  have h0:=tz2 (ci r0);have hk:=b6c (l:=l) (m:=m) (q:=q) h0;(iterate 5 refine k9 (gtf r0) ?_);refine w_7 ?_
  exact hx8 rfl rfl rfl (⟨ccb hk.symm,trivial⟩)
 have h0:=tz1 (cj r0);have hv:lvE n ps = 0:=h0;(iterate 3 refine qy ?_ (hg:=(gff r0)));refine qcx zc (vu n l m) ?_ (hg:=(gff r0));refine qy ?_ (hg:=(gff r0));refine w_2 ?_;refine am _ rfl (fun r1=>?_) (fun r1=>?_)
 · have h1:=tz2 (ci (aq r0 r1));have hk:=b7j (ps:=ps) (q:=q) h1;refine v_4 ?_;exact ⟨ccb hk.symm,trivial⟩
 have h1:=tz1 (cj (aq r0 r1));have hb:be n l m = 0:=h1;obtain ⟨hn0,hn8,_,_,_⟩:=nj hv;have hn16:n <= 16:=by omega
 refine w_5 ?_;refine qcx (wgx Tryz.func128) (atq n ps hv) ?_;refine w_3 ?_;refine m9 0 ?_;refine dl ?_;refine bp (ka 0 (ka 2 (ka 3 (ka 11 (ka 32 (ka 33 kn)))))) km (fun i=>⟨[(12,some (vI (ruL n ps l m (q.take i)).2.2)),(34,some (vI i))],[(0,some (.box [.p (.raw (.int .i64 (ruL n ps l m (q.take i)).1)), .p (rl (ruL n ps l m (q.take i)).2.1)]))]⟩) q.length kk ?_;rintro i hi;refine w_5 ?_;refine hcd (fun h2=>?_) (fun h2=>?_)
 ·
  have hil:i < q.length:=by omega
  refine w_7 ?_;refine m9 1 ?_;refine w_8 ?_;refine hcn (fun h3=>?_) (fun h3=>?_)
  · have hk:=biu hv hb h3;refine v_4 ?_;exact ⟨ccb hk.symm,trivial⟩
  have hx:=b6k hil h3;refine w_6 ?_;refine qcx (wgx Tryz.func129) (ari (ruL n ps l m (q.take i)).1 (ruL n ps l m (q.take i)).2.1 l m (q.getD i default).1 (q.getD i default).2.1 (q.getD i default).2.2.1 (q.getD i default).2.2.2) ?_;refine d5 ?_;exact lpx (i + 1) ⟨⟨⟨_,rfl,(by rw [hx];exact CoR.refl _)⟩,tt⟩,⟨⟨_,rfl,(by rw [hx];exact CoO.refl _)⟩,trivial⟩⟩
 have hiq:i = q.length:=by omega
 have hqe:ruL n ps l m (q.take i) = ruL n ps l m q:=by rw [hiq,bog]
 refine w_6 ?_;refine ai rfl rfl (fun r4=>?_) (fun r4=>?_)
 ·
  have h4:=tz1 r4;have hk:=b6f hv hb hqe h4;(iterate 2 refine qy ?_ (hg:=(gtt r4)));refine qcx agv (afp n hn0 hn16) ?_ (hg:=(gtt r4));refine qcx aaa (akp (ruL n ps l m (q.take i)).1 (ruL n ps l m (q.take i)).2.1 (cg n)) ?_ (hg:=(gtt r4))
  refine v_4 ?_;exact ⟨ccb (by rw [hk];first | done | rfl | (unfold ke;simp_all) | simp_all),trivial⟩
 have h4:=tz2 r4;have hk:=avl hv hb hqe h4;(iterate 4 refine k9 (gft r4) ?_);refine w_4 ?_
 exact hx8 rfl rfl rfl (⟨ccb (by rw [hk];first | done | rfl | (unfold ke;simp_all) | simp_all),trivial⟩)
def awv (n:Int) (ps:List AS) (l m:List Fd) (q:List SI):a7 btb 67 [pI n,pP (asl ps),pP (fdl l),pP (fdl m),pP (sil q)] (aa [pB (qt n ps l m q)]):=by
 refine hpx (nt:=60) Tryz.func67 ?_;refine w_6 ?_;refine cq 4 rfl fun hlen=>?_;refine w_3 ?_;refine qcx (wgx Tryz.func62) (ao6 n ps) ?_;refine w_2 ?_;refine ai rfl rfl (fun r0=>?_) (fun r0=>?_)
 ·
  have h0:=tz2 (ci r0);have hk:=b6c (l:=l) (m:=m) (q:=q) h0;(iterate 5 refine k9 (gtf r0) ?_);refine w_7 ?_
  exact hx8 rfl rfl rfl (⟨ccb hk.symm,trivial⟩)
 have h0:=tz1 (cj r0);have hv:lvE n ps = 0:=h0;(iterate 3 refine qy ?_ (hg:=(gff r0)));refine qcx adl (a6a n l m) ?_ (hg:=(gff r0));refine qy ?_ (hg:=(gff r0));refine w_2 ?_;refine am _ rfl (fun r1=>?_) (fun r1=>?_)
 · have h1:=tz2 (ci (aq r0 r1));have hk:=b7j (ps:=ps) (q:=q) h1;refine v_4 ?_;exact ⟨ccb hk.symm,trivial⟩
 have h1:=tz1 (cj (aq r0 r1));have hb:be n l m = 0:=h1;obtain ⟨hn0,hn8,_,_,_⟩:=nj hv;have hn16:n <= 16:=by omega
 refine w_5 ?_;refine qcx (wgx Tryz.func130) (b3j n ps hv) ?_;refine w_3 ?_;refine m9 0 ?_;refine w_3 ?_;refine ep (ι:=Nat) (ka 0 (ka 11 kn)) km (fun i=>⟨[(12,some (vI (ruL n ps l m (q.take i)).2.2))],[(0,some (.box [.p (.raw (.int .i64 (ruL n ps l m (q.take i)).1)), .p (rl (ruL n ps l m (q.take i)).2.1)]))]⟩) (fun i=>ruL n ps l m (q.take i) = ruL n ps l m q) ?_ ?_
 ·
  refine w_5 ?_;refine bp (ka 0 (ka 2 (ka 3 (ka 4 (ka 11 kn))))) km (fun i=>⟨[(12,some (vI (ruL n ps l m (q.take i)).2.2)),(13,some (vI i))],[(0,some (.box [.p (.raw (.int .i64 (ruL n ps l m (q.take i)).1)), .p (rl (ruL n ps l m (q.take i)).2.1)]))]⟩) q.length kk ?_;rintro i hi;refine w_8 ?_;refine ai rfl rfl (fun r2=>?_) (fun r2=>?_)
  ·
   have h2:=tz1 r2;have hil:i < q.length:=by omega
   (iterate 2 refine qy ?_ (hg:=(gtt r2)));refine w_2 ?_;refine am _ rfl (fun r3=>?_) (fun r3=>?_)
   · have h3:=tz1 (bq r2 r3);have hx:=b6k hil h3;refine dl ?_;refine qcx (wgx Tryz.func131) (b1v (ruL n ps l m (q.take i)).1 (ruL n ps l m (q.take i)).2.1 l m (q.getD i default).1 (q.getD i default).2.1 (q.getD i default).2.2.1 (q.getD i default).2.2.2) ?_;refine i6 ?_;exact lpx (i + 1) ⟨⟨⟨_,rfl,(by rw [hx];exact CoR.refl _)⟩,tt⟩,⟨⟨_,rfl,(by rw [hx];exact CoO.refl _)⟩,trivial⟩⟩
   have h3:=tz2 (bq r2 r3);have hqe:=bfv h3;refine dy ?_;refine ⟨i, ?_, ?_⟩
   · exact hqe
   exact kk
  have h2:=tz2 r2;have hiq:i = q.length:=by omega
  have hqe:ruL n ps l m (q.take i) = ruL n ps l m q:=by rw [hiq,bog]
  (iterate 2 refine k9 (gft r2) ?_);refine w_4 ?_;refine ⟨i, ?_, ?_⟩
  · exact hqe
  exact kk
 rintro i hqe;refine w_5 ?_;refine ai rfl rfl (fun r4=>?_) (fun r4=>?_)
 ·
  have h4:=tz1 r4;have hk:=b6f hv hb hqe h4;(iterate 2 refine qy ?_ (hg:=(gtt r4)));refine qcx (wgx Tryz.func70) (bex n hn16) ?_ (hg:=(gtt r4));refine qcx (wgx Tryz.func69) (axz (ruL n ps l m (q.take i)).1 (ruL n ps l m (q.take i)).2.1 (cg n)) ?_ (hg:=(gtt r4));refine w_4 ?_
  exact hx8 rfl rfl rfl (⟨ccb (by rw [hk];first | done | rfl | (unfold ke;simp_all) | simp_all),trivial⟩)
 have h4:=tz2 r4;have hk:=avl hv hb hqe h4;(iterate 4 refine k9 (gft r4) ?_);refine w_4 ?_
 exact hx8 rfl rfl rfl (⟨ccb (by rw [hk];first | done | rfl | (unfold ke;simp_all) | simp_all),trivial⟩)
def b83 (n:Int) (l m:List Fd) (ps:List AS) (c:Int) (q:List SI):a7 btb 26 [pI n,pP (fdl l),pP (fdl m),bgv ps c q] (aa [pB (a1k n l m ps c q)]):=by
 refine hpx (nt:=57) Tryz.func26 ?_;refine sx7 ?_;refine m9 0 ?_;refine w_8 ?_;refine qcx ae3 (a9f n ps) ?_;refine w_2 ?_;refine ai rfl rfl (fun r0=>?_) (fun r0=>?_)
 ·
  have h0:=tz2 (ci r0);have hk:=a2l (n:=n) (l:=l) (m:=m) (ps:=ps) (c:=c) (q:=q) (fun e=>h0 e.1);(iterate 5 refine k9 (gtf r0) ?_);refine w_2 ?_;(iterate 3 refine k9 rfl ?_);refine w_2 ?_;(iterate 3 refine k9 rfl ?_);refine w_7 ?_
  exact hx8 rfl rfl rfl (⟨ccb hk.symm,trivial⟩)
 have h0:=tz1 (cj r0);have hv:lvE n ps = 0:=h0;(iterate 3 refine qy ?_ (hg:=(gff r0)));refine qcx zc (vu n l m) ?_ (hg:=(gff r0));refine qy ?_ (hg:=(gff r0));refine w_2 ?_;refine ai rfl rfl (fun r1=>?_) (fun r1=>?_)
 ·
  have h1:=tz2 (ci (aq r0 r1));have hk:=a2l (n:=n) (l:=l) (m:=m) (ps:=ps) (c:=c) (q:=q) (fun e=>h1 e.2.1);(iterate 3 refine k9 (gtf r1) ?_);refine w_2 ?_;(iterate 3 refine k9 rfl ?_);refine w_7 ?_
  exact hx8 rfl rfl rfl (⟨ccb hk.symm,trivial⟩)
 have h1:=tz1 (cj (aq r0 r1));have hb:be n l m = 0:=h1;(iterate 3 refine qy ?_ (hg:=(gff r1)));refine w_2 ?_;refine ai rfl rfl (fun r2=>?_) (fun r2=>?_)
 ·
  have h2:=tz1 (aq r1 r2);have hk:=a2l (n:=n) (l:=l) (m:=m) (ps:=ps) (c:=c) (q:=q) (fun e=>by have:=e.2.2.1;omega);(iterate 3 refine k9 (gtf r2) ?_);refine w_7 ?_
  exact hx8 rfl rfl rfl (⟨ccb hk.symm,trivial⟩)
 have h2:=tz2 (aq r1 r2);have hc0:0 <= c:=by omega
 (iterate 3 refine qy ?_ (hg:=(gff r2)));refine w_2 ?_;refine am _ rfl (fun r3=>?_) (fun r3=>?_)
 · have h3:=tz1 (aq r2 r3);have hk:=a2l (n:=n) (l:=l) (m:=m) (ps:=ps) (c:=c) (q:=q) (fun e=>by have:=e.2.2.2;omega);refine v_4 ?_;exact ⟨ccb hk.symm,trivial⟩
 have h3:=tz2 (aq r2 r3);have hc:c <= 31:=by omega
 have hl:l.length <= 16777216:=by have:=(m7 hb).2.2.1;omega
 refine kw ?_;refine qcx (wgx Tryz.func46) (b6y n l m ps hl) ?_;refine w_4 ?_;refine hcn (fun h4=>?_) (fun h4=>?_)
 · have hk:=bkc (q:=q) ⟨hv,hb,hc0,hc⟩ h4;refine v_4 ?_;exact ⟨ccb hk.symm,trivial⟩
 have hk:=b63 (q:=q) ⟨hv,hb,hc0,hc⟩ h4;refine w_8 ?_;refine ai rfl rfl (fun r5=>?_) (fun r5=>?_)
 ·
  have h5:=tz1 r5;have hodd:=h5;(iterate 8 refine k9 (gtf r5) ?_);refine w_3 ?_
  exact hx8 rfl rfl rfl (⟨ccb (by rw [hk];first | done | rfl | simp_all),trivial⟩)
 have h5:=tz2 r5;have hodd:=h5;(iterate 7 refine qy ?_ (hg:=(gff r5)));refine qcx (wgx Tryz.func66) (bds n ps l m q) ?_ (hg:=(gff r5));refine w_3 ?_
 exact hx8 rfl rfl rfl (⟨ccb (by rw [hk];first | done | rfl | simp_all),trivial⟩)
def aj9 (n:Int) (l m:List Fd) (ps:List AS) (c:Int) (q:List SI):a7 btb 27 [pI n,pP (fdl l),pP (fdl m),bgv ps c q] (aa [pB (a1k n l m ps c q)]):=by
 refine hpx (nt:=67) Tryz.func27 ?_;refine sx7 ?_;refine m9 0 ?_;refine w_8 ?_;refine qcx (wgx Tryz.func62) (ao6 n ps) ?_;refine w_2 ?_;refine ai rfl rfl (fun r0=>?_) (fun r0=>?_)
 ·
  have h0:=tz2 (ci r0);have hk:=a2l (n:=n) (l:=l) (m:=m) (ps:=ps) (c:=c) (q:=q) (fun e=>h0 e.1);(iterate 5 refine k9 (gtf r0) ?_);refine w_2 ?_;(iterate 3 refine k9 rfl ?_);refine w_2 ?_;(iterate 3 refine k9 rfl ?_);refine w_7 ?_
  exact hx8 rfl rfl rfl (⟨ccb hk.symm,trivial⟩)
 have h0:=tz1 (cj r0);have hv:lvE n ps = 0:=h0;(iterate 3 refine qy ?_ (hg:=(gff r0)));refine qcx adl (a6a n l m) ?_ (hg:=(gff r0));refine qy ?_ (hg:=(gff r0));refine w_2 ?_;refine ai rfl rfl (fun r1=>?_) (fun r1=>?_)
 ·
  have h1:=tz2 (ci (aq r0 r1));have hk:=a2l (n:=n) (l:=l) (m:=m) (ps:=ps) (c:=c) (q:=q) (fun e=>h1 e.2.1);(iterate 3 refine k9 (gtf r1) ?_);refine w_2 ?_;(iterate 3 refine k9 rfl ?_);refine w_7 ?_
  exact hx8 rfl rfl rfl (⟨ccb hk.symm,trivial⟩)
 have h1:=tz1 (cj (aq r0 r1));have hb:be n l m = 0:=h1;(iterate 3 refine qy ?_ (hg:=(gff r1)));refine w_2 ?_;refine ai rfl rfl (fun r2=>?_) (fun r2=>?_)
 ·
  have h2:=tz1 (aq r1 r2);have hk:=a2l (n:=n) (l:=l) (m:=m) (ps:=ps) (c:=c) (q:=q) (fun e=>by have:=e.2.2.1;omega);(iterate 3 refine k9 (gtf r2) ?_);refine w_7 ?_
  exact hx8 rfl rfl rfl (⟨ccb hk.symm,trivial⟩)
 have h2:=tz2 (aq r1 r2);have hc0:0 <= c:=by omega
 (iterate 3 refine qy ?_ (hg:=(gff r2)));refine w_2 ?_;refine am _ rfl (fun r3=>?_) (fun r3=>?_)
 · have h3:=tz1 (aq r2 r3);have hk:=a2l (n:=n) (l:=l) (m:=m) (ps:=ps) (c:=c) (q:=q) (fun e=>by have:=e.2.2.2;omega);refine v_4 ?_;exact ⟨ccb hk.symm,trivial⟩
 have h3:=tz2 (aq r2 r3);have hc:c <= 31:=by omega
 obtain ⟨hn0,hn8,_,_,_,hps⟩:=a7f ⟨hv,hb⟩;have hl:l.length <= 16777216:=by have:=(m7 hb).2.2.1;omega
 have hk:=ba6 (q:=q) ⟨hv,hb,hc0,hc⟩;refine w_8 ?_;refine qcx (wgx Tryz.func48) (bi9 n l m ps bsq (fun q hq=>(hps q hq).1)) ?_;refine w_2 ?_;refine nc (ka 0 (ka 1 (ka 2 (ka 7 kn)))) (kb 0 km) ⟨[(9,some (vI (a5w n l m ps)))],[]⟩ ?_ ?_
 ·
  refine w_5 ?_;refine qcx (wgx Tryz.func49) (b5p l ps hl) ?_;refine w_3 ?_;refine hcd (fun h4=>?_) (fun h4=>?_)
  · have hx:=bfn (n:=n) (l:=l) (m:=m) (ps:=ps) h4;refine w_5 ?_;exact ⟨⟨⟨_,rfl,(coi hx)⟩,tt⟩,uu⟩
  have hx:=bio (n:=n) (l:=l) (m:=m) (ps:=ps) h4;refine dp ?_;exact ⟨⟨⟨_,rfl,(coi hx)⟩,tt⟩,uu⟩
 refine nc (ka 7 kn) (kb 0 km) ⟨[(9,some (vI (agr n l m ps c q)))],[]⟩ ?_ ?_
 ·
  refine w_7 ?_;refine ai rfl rfl (fun r5=>?_) (fun r5=>?_)
  ·
   have h5:=tz2 (ci r5);have hodd:=h5;(iterate 7 refine qy ?_ (hg:=(gtt r5)));refine qcx (wgx Tryz.func67) (awv n ps l m q) ?_ (hg:=(gtt r5));refine w_2 ?_;refine am _ rfl (fun r6=>?_) (fun r6=>?_)
   · have h6:=bq r5 r6;have hx:=bhj (n:=n) (l:=l) (m:=m) (ps:=ps) hodd h6;refine w_5 ?_;exact ⟨⟨⟨_,rfl,(coi (by first | exact hx | exact hx.symm))⟩,tt⟩,uu⟩
   have h6:=bq r5 r6;have hx:=bgb (n:=n) (l:=l) (m:=m) (ps:=ps) (c:=c) h6;refine dp ?_;exact ⟨⟨⟨_,rfl,(coi (by first | exact hx | exact hx.symm))⟩,tt⟩,uu⟩
  have h5:=tz1 (cj r5);have hx:=bfc (n:=n) (l:=l) (m:=m) (ps:=ps) (q:=q) (by simpa using h5);(iterate 8 refine k9 (gft r5) ?_);refine w_4 ?_
  exact ⟨⟨⟨_,rfl,(coi (by first | exact hx | exact hx.symm))⟩,tt⟩,uu⟩
 refine v_9 ?_;exact ⟨ccb hk,trivial⟩
end
section
section
variable {n:Int} {l:List Fd}
def bd3 (h:au n l = 0) {f:Fd} (hf:f ∈ nn l):f.lhs ||| mgR (nn l) f.lhs ∈ ou n l:=by
 have hm:mgF (tc n l) f.lhs ∈ ic n l:=by
  unfold ic a1q;rw [a1h h];exact boo.2 ⟨f.lhs,gn.2 (boo.2 ⟨f,hf,rfl⟩),rfl⟩
 have hp:pt (mgF (tc n l) f.lhs) ∈ xe n l:=boo.2 ⟨_,hm,rfl⟩;rw [a1h h] at hp;unfold ou;split
 · exact hp
 exact boj.2 (.inl hp)
def ayp (h:au n l = 0) {f:Fd} (hf:f ∈ nn l):py l (oz n l) f = true:=by
 obtain ⟨y,hy,hs⟩:=n5 (bd3 h hf);have hy':y ∈ oz n l:=by rw [a3v h];exact hy
 have ho:=a5q l (oz n l) f.lhs y hy';have h0:sub f.rhs (mgR (nn l) f.lhs):=ahn hf rfl;have h1:sub f.lhs y:=ak o5 hs;have h2:sub f.rhs y:=ak (ak h0 pn) hs;have h3:sub f.rhs (clo l f.lhs):=by rw [<- sh];exact gu f hf j9
 have h4:sub f.rhs (clo l (o0 l (oz n l) f.lhs &&& y)):=ak h3 (jv (gr a4o h1));exact decide_eq_true (ak (gr h4 h2) ho)
def atg (h:au n l = 0):ij l (oz n l) = true:=b43.2 fun f hf=>ayp h hf
def bg0 (h:au n l = 0) (h6:n <= 6):lvE n (oz n l) = 0:=by
 obtain ⟨x,hx,_⟩:=aoa h;refine akt (f8 h).1 h6 ?_ (fun q hq=>?_) (bsk hx) (by rw [anl h];exact df _)
 · rw [a3v h]
   exact (yw _).sublist (by unfold auv ef wt;exact List.filter_sublist)
 rw [<- anl h];exact sq hq
end
end
section
section
variable {n:Int} {l m:List Fd} {ps:List AS} {q:List AS × Int} {lend:List Rw}
def b51 (hv:lvE n ps = 0) (hb:be n l m = 0):lsC n ps l m = 3 \/ (lsC n ps l m = 0 /\ (LR n.toNat l m (bj n ps) (cg n) -> lsB n ps l m = true)):=by
 obtain ⟨h0,h8,h64,_⟩:=nj hv
 rcases a8i (m:=m) h64 hb with ⟨e,_⟩ | ⟨sts,lend,e,h1,_⟩
 · left
   rw [a56 hv hb];unfold lsT;rw [e]
 right;have ec:lsC n ps l m = 0:=by rw [a56 hv hb];unfold lsT;rw [e]
 refine ⟨ec,fun hL=>?_⟩;unfold lsB lsT;rw [ec,e,decide_eq_true rfl,bq1];show (lend.any fun r=>decide (r = cg n)) = true;rw [yt,decide_eq_true_iff,h1];exact hL
def azf (hb:be n l m = 0):∀ (sts:List St) (t:List Rw),TrZ n l m lend t sts -> ∀ i,i <= sts.length -> ((sts.take i).map a1i).foldl (ru1 l m) (n,t,0) = (n,(trL n l m t sts).getD i default,0)
 | [],t,_,i,hi=>by
  have:i = 0:=Nat.le_zero.1 hi;subst this;rfl
 | s :: r,t,h,0,_=>rfl
 | s :: r,t,⟨hT,hok,l',e,_,ht⟩,i + 1,hi=>by
  have h1:ru1 l m (n,t,0) (a1i s) = (n,l',0):=by
   rw [show ru1 l m (n,t,0) (a1i s) = dv n t l m s.1 s.2.1 s.2.2.1 s.2.2.2 from if_pos rfl,aj4 hT hb hok,e]
  have h2:(trL n l m t (s :: r)).getD (i + 1) default = (trL n l m l' r).getD i default:=by
   show (trL n l m (fu n t l m s).2.1 r).getD i default = _;rw [e]
  rw [h2,List.take_succ_cons,bpt,bq6,h1];exact azf hb r l' ht i (Nat.le_of_succ_le_succ hi)
def bhx (hls:lsC n ps l m = 0) (hb:lsB n ps l m = true):qt n ps l m ((prS n ps l m).map a1i) = true:=by
 obtain ⟨hv,hbe⟩:=lh hls;have hc:(lsT n ps l m).2.2 = 0:=(a56 hv hbe).symm.trans hls;obtain ⟨sts,lend,e,htr,_,_⟩:=aeg hv hbe hc;have e2:(rcR n ps l m).2.1 = qb n l m (tb0 n ps) sts:=by rw [akl hls,e]
 have hx:0 <= prX n ps l m:=(bao hls).2 hb
 have hx':¬ idx (fun a:Int × List Rw=>ke n a.2) (rcR n ps l m).2.1 = -1:=fun h=>by
  have:prX n ps l m = -1:=h;omega
 obtain ⟨i,h1,h2,h3,h4⟩:=xa hx';rw [e2] at h2 h3 h4;rw [abp] at h2;rw [a3y bsq] at h3;have hs:(lsT n ps l m).1 = sts:=by rw [e]
 have hp:=(a6e hls (i:=i) (by rw [show trS n ps l m = sts from hs];omega) (fun j hj=>by
  have:=h4 j hj;rw [a3y bsq] at this;show ke n ((trL n l m (tb0 n ps) (trS n ps l m)).getD j default) = false;rw [show trS n ps l m = sts from hs]
  exact this) (by
  show ke n ((trL n l m (tb0 n ps) (trS n ps l m)).getD i default) = true;rw [show trS n ps l m = sts from hs]
  exact h3)).1
 rw [hp,show trS n ps l m = sts from hs];unfold qt;rw [if_pos ⟨hv,hbe⟩];have hr:ruL n ps l m ((sts.take i).map a1i) = (n,(trL n l m (tb0 n ps) sts).getD i default,0):=azf hbe sts (tb0 n ps) htr i bsq;rw [hr,decide_eq_true rfl,bq1];exact h3
def ay1:0 <= ld n l m ps /\ ld n l m ps <= 31:=by
 unfold ld;split
 · unfold oc
   generalize ij l ps = a;generalize ps.all (thB n l) = b;generalize ps.all (byB l) = c;generalize ps.all (foB n l m) = d;generalize lsB n ps l m = e;cases a <;> cases b <;> cases c <;> cases d <;> cases e <;> decide
 decide
def stp (n:Int) (ps:List AS) (l m:List Fd):List St:=if lsB n ps l m = true then prS n ps l m else []
def b98 (h:lsC n ps l m = 0):a1k n l m ps (ld n l m ps) ((stp n ps l m).map a1i) = true:=by
 obtain ⟨hv,hb⟩:=lh h
 rw [b63 ⟨hv,hb,ay1.1,ay1.2⟩ (by
  unfold ld;rw [if_pos h];unfold oc;generalize ij l ps = a;generalize ps.all (thB n l) = b;generalize ps.all (byB l) = c;generalize ps.all (foB n l m) = d;generalize lsB n ps l m = e
  cases a <;> cases b <;> cases c <;> cases d <;> cases e <;> decide),ass h]
 rcases bs8 (lsB n ps l m) with hB | hB
 · rw [hB]
   unfold stp;rw [if_pos hB];exact bhx h hB
 rw [hB];rfl
def ah0 (n:Int) (l m:List Fd) (want:Int) (d:Dsg) (e:Int):Prop:=e = 3 \/ (e = 0 /\ ap .and .i64 d.2.1 want = want /\ a1k n l m d.1 d.2.1 (d.2.2.map a1i) = true)
def ada (hc:mq n l m = 0) (hq:q.2 = 0) (hv:lvE n q.1 = 0) {want:Int} (hw:lsC n q.1 l m = 0 -> (LR n.toNat l m (bj n q.1) (cg n) -> lsB n q.1 l m = true) -> ap .and .i64 (ld n l m q.1) want = want) :
 ah0 n l m want (goD n l m q) (goE n l m q):=by
 obtain ⟨e1,e2⟩:=b4e (n:=n) (l:=l) (m:=m) hc hq;rw [e1,e2]
 rcases b51 (l:=l) (m:=m) hv (a7g hc).2.2.1 with h | ⟨h,h2⟩
 · exact .inl h
 refine .inr ⟨h, ?_⟩;have e3:fuD n l m q.1 = (q.1,ld n l m q.1,stp n q.1 l m):=if_pos h;rw [e3];exact ⟨hw h h2,b98 h⟩
def bgl (h:lsC n ps l m = 0) (h1:lsB n ps l m = true) (h2:ij l ps = true) (h3:ps.all (thB n l) = true):ap .and .i64 (ld n l m ps) 7 = 7:=by
 unfold ld oc;rw [if_pos h,h1,h2,h3];generalize ps.all (byB l) = c;generalize ps.all (foB n l m) = d;cases c <;> cases d <;> decide
def blf (h:lsC n ps l m = 0) (h1:lsB n ps l m = true) (h3:ps.all (byB l) = true):ap .and .i64 (ld n l m ps) 9 = 9:=by
 unfold ld oc;rw [if_pos h,h1,h3];generalize ij l ps = a;generalize ps.all (thB n l) = b;generalize ps.all (foB n l m) = d;cases a <;> cases b <;> cases d <;> decide
def bke (h:lsC n ps l m = 0) (h1:lsB n ps l m = true) (h3:ps.all (foB n l m) = true):ap .and .i64 (ld n l m ps) 17 = 17:=by
 unfold ld oc;rw [if_pos h,h1,h3];generalize ij l ps = a;generalize ps.all (thB n l) = b;generalize ps.all (byB l) = c;cases a <;> cases b <;> cases c <;> decide
def au5 (hc:mq n l m = 0) (h6:n <= 6):ah0 n l m 7 (goD n l m (oz n l,au n l)) (goE n l m (oz n l,au n l)):=by
 obtain ⟨h0,h8,hb,hv,_,_⟩:=a7g hc;refine ada hc hv (bg0 hv h6) fun h hL=>?_;have h:lsC n (oz n l) l m = 0:=h;obtain ⟨x,hx,hk⟩:=aoa hv;refine bgl h (hL (zp h0 bsq hx (of_decide_eq_true hk).2.2 (atg hv))) (atg hv) (bp1.2 fun p hp=>?_);rw [an3 (lh h) hp,(a9s hv ((axt h).2.2.2.2.2 p hp).1).2];exact avx hv p hp
def bbz (hc:mq n l m = 0) (h6:n <= 6):ah0 n l m 9 (goD n l m (xu n l,fc n l 8)) (goE n l m (xu n l,fc n l 8)):=by
 obtain ⟨h0,h8,hb,hv,h9,_⟩:=a7g hc;obtain ⟨d1,d2⟩:=b19 h9 h6;refine ada hc h9 d1 fun h hL=>?_;have h:lsC n (xu n l) l m = 0:=h;refine blf h (hL (ann h0 h9)) (bp1.2 fun p hp=>?_);rw [a9i (lh h) hp,d2 p hp];rfl
def b5b (hc:mq n l m = 0) (h6:n <= 6):ah0 n l m 17 (goD n l m (xl n l m,ck4 n l m 0)) (goE n l m (xl n l m,ck4 n l m 0)):=by
 obtain ⟨h0,h8,hb,hv,_,h9⟩:=a7g hc;refine ada hc h9 (b3g h9 h6) fun h hL=>?_;have h:lsC n (xl n l m) l m = 0:=h;refine bke h (hL (ak4 h9)) (bp1.2 fun p hp=>?_);rw [ayz (lh h) hp,(ajo h9 hp).1];rfl
def bay (hc:mq n l m = 0) (h6:n <= 6):ah0 n l m 7 (goD n l m (mz n l)) (goE n l m (mz n l)):=by
 obtain ⟨h0,h8,hb,hv,h9,_⟩:=a7g hc
 rcases bs8 (qz n l) with hp | hp
 · rw [bf8 h9 hp]
   obtain ⟨p1,p2,p3⟩:=bca h9 h6 hp;refine ada hc h9 (lh p1).1 fun h hL=>?_;have h:lsC n (o9 n l) l m = 0:=h
   have hall:a0q n l = true:=by
    unfold qz at hp;rw [decide_eq_true h9,bq1] at hp;exact hp
   have hg:kz n l (o9 n l) = true:=by rw [(an1 h9 hall).1];exact a4t (b6j h9 hall) _
   obtain ⟨g1,g2,k,hk,g3⟩:=anp hg;unfold b3i at p2;rw [boc,boz,bpw] at p2;refine bgl h (hL (zp h0 bsq hk (of_decide_eq_true g3).2.2 g2)) p3 (bk9 h (bp1.2 fun p hp=>?_));rw [a9i (lh h) hp];have:=p2.2 p hp;rw [brn] at this;rw [this];rfl
 rw [bhf h9 hp];exact au5 hc h6
def b38 (hc:mq n l m = 0) (h6:n <= 6) {f w:Int} (h:(f,w) ∈ [((3:Int),(7:Int)),(4,9),(5,17)]):ah0 n l m w (goD n l m (im n l m f)) (goE n l m (im n l m f)):=by
 simp only [bok,List.not_mem_nil,or_false,bof] at h
 rcases h with ⟨rfl,rfl⟩ | ⟨rfl,rfl⟩ | ⟨rfl,rfl⟩
 · rw [bh5 rfl];exact au5 hc h6
 · rw [bhg bsu rfl];exact bbz hc h6
 rw [bfz bsu bsu rfl];exact b5b hc h6
end
end
section
def a0c {f:MK -> Option PV} {m key:MK} {y z:PV} (h:ov f m y key = some z):(key = m /\ z = y) \/ f key = some z:=by
 unfold ov at h
 rcases bs8 (key.same m) with hs | hs
 · rw [hs] at h
   simp only [cond_true,bo5] at h;exact .inl ⟨MK.same_iff.1 hs,h.symm⟩
 rw [hs] at h;exact .inr h
abbrev frM:MK -> Option PV:=ov (ov (ov (fun _=>none) (.i .i64 3) (.raw (.int .i64 7))) (.i .i64 4) (.raw (.int .i64 9))) (.i .i64 5) (.raw (.int .i64 17))
def bes (key:MK) (y:PV) (h:frM key = some y):∃ v,y = .raw v:=by
 rcases a0c h with ⟨_,rfl⟩ | h
 · exact ⟨_,rfl⟩
 rcases a0c h with ⟨_,rfl⟩ | h
 · exact ⟨_,rfl⟩
 rcases a0c h with ⟨_,rfl⟩ | h
 · exact ⟨_,rfl⟩
 cases h
def bih {key:MK} {v:Value} (h:frM key = some (.raw v)):∃ fm w,key = .i .i64 fm /\ v = .int .i64 w /\ (fm,w) ∈ [((3:Int),(7:Int)),(4,9),(5,17)]:=by
 rcases a0c h with ⟨rfl,e⟩ | h
 · cases e;exact ⟨5,17,rfl,rfl,by simp⟩
 rcases a0c h with ⟨rfl,e⟩ | h
 · cases e;exact ⟨4,9,rfl,rfl,by simp⟩
 rcases a0c h with ⟨rfl,e⟩ | h
 · cases e;exact ⟨3,7,rfl,rfl,by simp⟩
 cases h
def bbk (d:Rcp) (h:okR d = true):mq (d.num 4) (d.fs 4) (d.ms 4) = 0:=by
 obtain ⟨h1,h2,h3⟩:=b67 h;obtain ⟨h4,h5⟩:=bf1 d;rw [b7p bsq];exact b8r d bsq h1 bsq
end
section
open Go.RowKit
structure ExF (kk:KK) (n:Nat) (f:MK -> Option PV) (es:Array MapEntry) (clock:Nat):Prop where
 st:Go.MapKept.Stamped es clock
 le:es.size <= n
 mx:es.size <= maxLen
 to:∀ x ∈ es.toList,∃ key v,x.key = key.val /\ f key = some (.raw v) /\ x.val = v /\ v.oneCell' = true
 of:∀ key y,f key = some y -> MK.ok kk key /\ ∃ x ∈ es.toList,x.key = key.val
structure Vis (es:Array MapEntry) (seen:Array Nat) (vs:List MK):Prop where
 nod:vs.Nodup
 inn:∀ k ∈ vs,∃ x ∈ es.toList,x.key = k.val /\ seen.contains x.born = true
 all:∀ x ∈ es.toList,seen.contains x.born = true -> ∃ k ∈ vs,x.key = k.val
section
variable {kk:KK} {n:Nat} {f:MK -> Option PV} {es:Array MapEntry} {clock:Nat} {seen:Array Nat} {vs:List MK} {e:MapEntry} {key:MK}
end
section
variable {nt:Nat} {st:HSt}
def ayl {Q:HSt -> Prop} (mid:Nat) {kk:KK} {n:Nat} {f:MK -> Option PV} (ho:bf st.o mid = some (.mp kk n f)) (hraw:∀ key y,f key = some y -> ∃ v,y = .raw v)
 (h:∀ b es clock,ExF kk n f es clock -> HE nt ⟨st.t,(mid,some (.ex 0 (.map (some b)) b (.map es clock))) :: st.o⟩ Q):HE nt st Q:=fun w0 m0 a w hr=>by
 obtain ⟨cc,hold,hrr⟩:=hr;obtain ⟨b,es,clock,h1,h2,h3,h4,h5,h6,h7,h8,h9⟩:=hrr.objs mid _ ho;refine h b es clock ⟨h5,h6,h7,fun x hx=>?_,h9⟩ w0 m0 a w ?_
 · obtain ⟨key,y,q1,q2,q3⟩:=h8 x hx
   obtain ⟨v,rfl⟩:=hraw key y q2;obtain ⟨e1,e2⟩:=q3;exact ⟨key,v,q1,q2,e1,e2⟩
 have hw:=hrr.write mid (.mp kk n f) ho (.ex 0 (.map (some b)) b (.map es clock)) w (cc.own mid) (cc.blk mid) none (Grw.refl w _) (fun _ e=>by cases e)
  (.inr (.inr ⟨_, .ex 0 (.map (some b)) b (.map es clock),0,0,0,0,ho,rfl,by simp [S.setO],rfl,bo9 _,fun _=>by simp,fun _ _ _ _ _ _ _ hb=>by cases hb⟩)) (fun b hb=>.inl hb) ⟨by simpa using h1,by simpa using h2,h3,h4,rfl⟩
 rw [<- m8] at hw;exact ⟨_,(by exact hold),hw⟩
end
def aqk {P:Program} (w:World) (ty:TypeId) (bi b clock:Nat) (seen:Array Nat) (es:Array MapEntry) (hit:w.heap[bi]? = some (.mapIter (some b) clock seen clock)) (hb:w.heap[b]? = some (.map es clock)) (hold:∀ x ∈ es.toList,x.born < clock) :
 ((leftOf es seen).size = 0 /\ (Instr.next (.pointer (some ⟨bi,0,none⟩)) false ty).run P w = .ok (.tuple #[.bool false]) w) \/
 ∃ e ∈ (leftOf es seen).toList,∃ w1:World,(w1 = w \/ w1 = w.drew) /\ (Instr.next (.pointer (some ⟨bi,0,none⟩)) false ty).run P w = .ok (.tuple #[.bool true,e.key,e.val]) { w1 with heap:=w.heap.setIfInBounds bi (.mapIter (some b) clock (seen.push e.born) clock) }:=by
 have hbi:bi < w.heap.size:=(boa.1 hit).1;simp only [Instr.next,getObj,bpb,Sem.run,hit,hb,Result.andThen,next_test_false seen es clock clock hold (bo9 _),bpe,if_false];unfold leftOf;have hmem:∀ x ∈ (Array.filter (fun e=>!seen.contains e.born) es).toList,x.born < clock:=fun x hx=>hold x (by simp at hx ⊢;exact hx.1);generalize Array.filter (fun e=>!seen.contains e.born) es = L at hmem ⊢;have e1:L.filter (fun x=>decide (x.born < clock)) = L:=Array.filter_eq_self.2 (fun x hx=>by simpa using hmem x (by simpa using hx))
 have e2:L.filter (fun x=>decide (x.born ≥ clock)) = #[]:=by
  rw [Array.filter_eq_empty_iff];intro x hx;have:=hmem x (by simpa using hx);simp;omega
 simp only [e1,e2,Array.append_empty];by_cases h0:L.size = 0
 · left
   have:L = #[]:=Array.eq_empty_of_size_eq_zero h0;subst this;refine ⟨rfl, ?_⟩;simp [choose,Sem.run,Question.forced]
 right
 have hne:L.isEmpty = false:=by
  rw [bol];intro h;exact h0 (by simpa [Array.isEmpty] using h)
 have hsz:(Array.map some L).size = L.size:=by simp
 simp only [hne,bpe,if_false,Array.empty_append,hsz];by_cases h1:L.size <= 1
 · have hp:0 < L.size:=by omega
   refine ⟨L[0],by simp,w, .inl rfl, ?_⟩;have hq:(Question.mapNext L.size).forced = true:=by simpa [Question.forced] using h1
   have hg:(Array.map some L)[0]? = some (some L[0]):=by simp [hp]
   simp [choose,Sem.run,hq,hg,setObj,hit,Result.andThen]
 have hq:(Question.mapNext L.size).forced = false:=by simpa [Question.forced] using h1
 have hlt:(Question.mapNext L.size).cut (w.tape w.drawn (.mapNext L.size)) < L.size:=brv _ bsq;generalize hk:(Question.mapNext L.size).cut (w.tape w.drawn (.mapNext L.size)) = k at hlt;refine ⟨L[k],by simp,w.drew, .inr rfl, ?_⟩;have hg:(Array.map some L)[k]? = some (some L[k]):=by simp [hlt]
 simp only [choose,Sem.run,hq,hk,hg,setObj,bpb,hit,Result.andThen,bpe,if_false];rfl
def b41 (w w1:World) (h:w1 = w \/ w1 = w.drew) (bi:Nat) (o:Obj):Grw w { w1 with heap:=w.heap.setIfInBounds bi o } (some bi):=by
 have hb:∀ k,some k ≠ some bi -> (w.heap.setIfInBounds bi o)[k]? = w.heap[k]?:=fun k hk=>brg (fun e=>hk (by rw [e]))
 rcases h with rfl | rfl
 · exact ⟨⟨rfl,rfl,rfl,by simp,fun k _ hk=>hb k hk⟩,bo9 _⟩
 exact ⟨⟨rfl,rfl,rfl,by simp,fun k _ hk=>hb k hk⟩,br5 _⟩
def an6 {P:Program} (w:World) (bi bm clock:Nat) (seen:Array Nat) (es:Array MapEntry) (e:MapEntry) (hit:w.heap[bi]? = some (.mapIter (some bm) clock (seen.push e.born) clock)) (hb:w.heap[bm]? = some (.map es clock)) (he:e ∈ es.toList) (hn:(es.toList.map (·.born)).Nodup) :
 (Instr.entry (.pointer (some ⟨bi,0,none⟩))).run P w = .ok (.tuple #[e.key,e.val]) w:=by
 have hf:es.find? (·.born == e.born) = some e:=by rw [<- Array.find?_toList];exact find_born e es.toList hn he
 simp only [Instr.entry,getObj,bpb,Sem.run,hit,hb,Result.andThen,Array.back?_push,bne_self_eq_false,bpe,if_false,hf];rfl
abbrev itO (bi b clock:Nat) (seen:Array Nat):a8:=.ex 2 (.pointer (some ⟨bi,0,none⟩)) bi (.mapIter (some b) clock seen clock)
abbrev mpO (b:Nat) (es:Array MapEntry) (clock:Nat):a8:=.ex 0 (.map (some b)) b (.map es clock)
section
variable {P:Program} {nt:Nat} {ops:Array Oper} {st:HSt}
def b7v (st:HSt) (d:Nat) (x:HR):HSt.den ⟨(d,some x) :: st.t,st.o⟩ = st.den.putD (some d) (some x):=by
 unfold HSt.den S.putD S.put;simp [bo]
def alw {k d:Nat} {o:Oper} {L:List Nat} {Q:HSt -> Prop} (hi:ops[k]? = some o) (hg:o.guard = none) (hd:o.dst = some d) (hdn:dg nt (some d) = true) (hnd:∀ c,o.op ≠ .defer c)
 (h:∀ w0 a w c,aj w0 nt c st.den a w -> ∃ v w' o' x c',c'.old = c.old /\ (execOp a.eval o).run P w = .ok (.value v) w' /\ aj w0 nt c' (HSt.den ⟨st.t,o'⟩) a w' /\ ar c' (HSt.den ⟨st.t,o'⟩).o x v /\ RN P nt ops L ⟨(d,some x) :: st.t,o'⟩ Q):RN P nt ops (k :: L) st Q:=fun ro n w0 m0 a w QQ ⟨c,hold,hr⟩ hQ=>by
 obtain ⟨v,w',o',x,c',h1,h2,h3,h4,h5⟩:=h w0 a w c hr;rw [wpOpsIn_cons];unfold wpOpIn;simp only [hi];have hw:Region.wanted o (yielded ops a.tmps) = true:=by unfold Region.wanted;rw [hg]
 rw [if_pos hw];refine a38 hnd ?_;unfold Oper.wp;rw [h2];refine h5 ro n w0 m0 _ w' QQ ⟨c',h1.trans hold, ?_⟩ hQ;rw [hd,b7v ⟨st.t,o'⟩ d x];exact h3.putD (some d) (fun k hk=>by cases hk;exact of_decide_eq_true hdn) (some x) v fun y hy=>by cases hy;exact h4
variable {k:Nat} {o:Oper} {L:List Nat} {Q:HSt -> Prop} {x:Operand} {mid j b clock d bi id n:Nat} {es:Array MapEntry} {seen:Array Nat} {kk:KK} {f:MK -> Option PV}
def ama {w0:World} {c:Ctx} {s:S} {a:Act} {w:World} (h:aj w0 nt c s a w) {v:Value} {y:Obj} {dd:Nat} (hx:ev s x = some (.v (.one (.ref mid j)))) (hm:s.o mid = some (.ex dd v b y)):a.eval x = v /\ w.heap[b]? = some y:=by
 obtain ⟨h1,h2,h3,h4,h5⟩:=h.objs mid _ hm;have hu:bh c s.o (.ref mid j) (a.eval x):=af h hx;obtain ⟨_,_,hu⟩:=hu;have h6:=hu _ _ _ _ hm rfl;exact ⟨(h6.2 bsq).trans h1,h4⟩
def b2t (id:Nat) {t kt et:TypeId} (hi:ops[k]? = some o) (ht:P.underlying t = some (.map kt et)) (h:∀ bi,RN P nt ops L ⟨(d,some (.v (.one (.ref id 0)))) :: st.t,(id,some (itO bi b clock #[])) :: st.o⟩ Q)
 (hg:o.guard = none:=by exact rfl) (ho:o.op = .range t x:=by exact rfl) (hd:o.dst = some d:=by exact rfl) (hdn:dg nt (some d) = true:=by exact rfl)
 (hx:ev st.den x = some (.v (.one (.ref mid j))):=by exact rfl) (hm:st.den.o mid = some (mpO b es clock):=by exact rfl) (hn:th id st = true:=by exact rfl):RN P nt ops (k :: L) st Q :=
 alw hi hg hd hdn (fun c hc=>by rw [hc] at ho;cases ho) fun w0 a w c hrr=>by
  obtain ⟨e1,e2⟩:=ama hrr hx hm;obtain ⟨hnm,hno⟩:=lx hn
  have hf:=hrr.fresh id hnm hno (itO w.heap.size b clock #[]) (w.alloc (.mapIter (some b) clock #[] clock)) (.pointer (some ⟨w.heap.size,0,none⟩)) (a1p w.heap.size) (Grw.alloc w _ none) (fun b hb=>brh (Eq.symm hb))
   ⟨by simp,by simp,boe _,Go.heap_alloc_new w _,rfl⟩
  rw [<- m8] at hf;refine ⟨.pointer (some ⟨w.heap.size,0,none⟩),_,_, .v (.one (.ref id 0)),_,(by exact rfl), ?_,hf,⟨rfl,fun l=>by simp [m8,S.setO],fun ob2 s2 e2 n2 ho2 hd2=>?_⟩,h w.heap.size⟩
  · simp [execOp,ho,e1,run_range_map w t kt et b es clock ht e2]
  rw [m8] at ho2;simp only [S.setO,if_true,bo5] at ho2;subst ho2;simp only [a8.dim,bo5,bof] at hd2;obtain ⟨rfl,rfl,rfl⟩:=hd2;exact ⟨bo9 _,fun _=>by simp⟩
def b9w (hi:ops[k]? = some o) (hf:ExF kk n f es clock)
 (h0:(leftOf es seen).size = 0 -> RN P nt ops L ⟨(d,some (.tup [.one (.p (.raw (.bool false)))])) :: st.t,st.o⟩ Q)
 (h1:∀ e ∈ (leftOf es seen).toList,∀ key v,e.key = key.val -> f key = some (.raw v) -> e.val = v -> RN P nt ops L ⟨(d,some (.tup [.one (.p (.raw (.bool true))), .one (.p (.raw key.val)), .one (.p (.raw v))])) :: st.t,(id,some (itO bi b clock (seen.push e.born))) :: st.o⟩ Q)
 (hg:o.guard = none:=by exact rfl) (ho:o.op = .next x false:=by exact rfl) (hd:o.dst = some d:=by exact rfl) (hdn:dg nt (some d) = true:=by exact rfl)
 (hx:ev st.den x = some (.v (.one (.ref id j))):=by exact rfl) (hm:st.den.o id = some (itO bi b clock seen):=by exact rfl)
 (hm2:st.den.o mid = some (mpO b es clock):=by exact rfl):RN P nt ops (k :: L) st Q :=
 alw hi hg hd hdn (fun c hc=>by rw [hc] at ho;cases ho) fun w0 a w c hrr=>by
  obtain ⟨e1,e2⟩:=ama hrr hx hm;obtain ⟨_,_,_,e3,_⟩:=hrr.objs mid _ hm2;have hob:=hrr.objs id _ hm
  rcases aqk (P:=P) w o.type bi b clock seen es e2 e3 hf.st.1 with ⟨h2,h3⟩ | ⟨e,he,w1,hw1,h3⟩
  · exact ⟨_,w,st.o, .tup [.one (.p (.raw (.bool false)))],c,rfl,by simp [execOp,ho,e1,h3],hrr,⟨[.bool false],rfl,⟨⟨rfl,rfl⟩,trivial⟩⟩,h0 h2⟩
  obtain ⟨q1,q2⟩:=mem_left he;obtain ⟨key,v,r1,r2,r3,r4⟩:=hf.to e q1
  have hw:=hrr.write id _ hm (itO bi b clock (seen.push e.born)) _ (c.own id) (c.blk id) (some bi) (b41 w w1 hw1 bi (.mapIter (some b) clock (seen.push e.born) clock)) (fun b hb=>by cases hb;rw [hob.2.1];exact rfl)
   (.inr (.inr ⟨_,itO bi b clock (seen.push e.born),0,2,0,0,hm,rfl,by simp [S.setO],rfl,bo9 _,fun _=>by simp,fun _ _ _ _ _ _ _ hb=>by cases hb⟩)) (fun b hb=>.inl hb) ⟨by simpa using hob.1,by simpa using hob.2.1,hob.2.2.1,by simp [(boa.1 e2).1],rfl⟩
  rw [<- m8] at hw;exact ⟨_,_,_, .tup [.one (.p (.raw (.bool true))), .one (.p (.raw key.val)), .one (.p (.raw v))],_,(by exact rfl),by simp [execOp,ho,e1,h3],hw,⟨[.bool true,e.key,e.val],rfl,⟨⟨rfl,rfl⟩,⟨r1,by cases key <;> rfl⟩,⟨r3,r4⟩,trivial⟩⟩,h1 e he key v r1 r2 r3⟩
def b2s (hi:ops[k]? = some o) (hf:ExF kk n f es clock) {e:MapEntry} {key:MK} {v:Value} (he:e ∈ (leftOf es seen).toList) (hk:e.key = key.val) (hv:f key = some (.raw v)) (hev:e.val = v)
 (h:RN P nt ops L ⟨(d,some (.tup [.one (.p (.raw key.val)), .one (.p (.raw v))])) :: st.t,st.o⟩ Q)
 (hg:o.guard = none:=by exact rfl) (ho:o.op = .entry x:=by exact rfl) (hd:o.dst = some d:=by exact rfl) (hdn:dg nt (some d) = true:=by exact rfl)
 (hx:ev st.den x = some (.v (.one (.ref id j))):=by exact rfl) (hm:st.den.o id = some (itO bi b clock (seen.push e.born)):=by exact rfl)
 (hm2:st.den.o mid = some (mpO b es clock):=by exact rfl):RN P nt ops (k :: L) st Q :=
 alw hi hg hd hdn (fun c hc=>by rw [hc] at ho;cases ho) fun w0 a w c hrr=>by
  obtain ⟨e1,e2⟩:=ama hrr hx hm;obtain ⟨_,_,_,e3,_⟩:=hrr.objs mid _ hm2;obtain ⟨q1,_⟩:=mem_left he;obtain ⟨key',v',r1,r2,r3,r4⟩:=hf.to e q1;obtain rfl:key' = key:=MK.val_inj (r1.symm.trans hk);rw [hv] at r2;cases r2;exact ⟨_,w,st.o, .tup [.one (.p (.raw key'.val)), .one (.p (.raw v))],c,rfl,by simp [execOp,ho,e1,an6 (P:=P) w bi b clock seen es e e2 e3 q1 hf.st.2.1],hrr,⟨[e.key,e.val],rfl,⟨⟨r1,by cases key' <;> rfl⟩,⟨r3,r4⟩,trivial⟩⟩,h⟩
end
end
end Go.Hx

/- A part of the proof: Ls2 Ls3 Ls5 W0 W1 Ls6 W2a Rbm Bz1 Bz2 Bz3 Y1 Bz4 Y3 Bz5 Rb25 Rb34 Kw12. -/
import Derived.Test.YtnlcekpflogjkaaGreatDoorTx28
set_option linter.all false
set_option maxRecDepth 100000
set_option maxHeartbeats 1000000
namespace Go.Hx
section
def uw (E:Int -> Int -> Prop) (R:Rw -> Prop) (s:AS):Prop:=∃ r,R r /\ ∀ i:Nat,i < r.length -> c8 s (i:Int) = true -> E (r.getD i default) (i:Int)
section
variable {N:Nat} {p m:List Fd} {E:Int -> Int -> Prop} {R:Rw -> Prop}
def th {s t:AS} (h:sub s t) {i:Nat} (hi:c8 s (i:Int) = true):c8 t (i:Int) = true:=by
 by_cases hl:i < 32
 · rw [dx hl] at hi ⊢
   exact aq.1 h i hl hi
 rw [xl bv9] at hi;cases hi
def b3m (h:Mdl N p m E R) {a b:Rw} (ha:R a) (hb:R b) {f:Fd} (hf:f ∈ p) {s:AS} (hs:AgE E a b s):AgE E a b (gc s f):=by
 unfold gc;split
 · rename_i hl
   have h2:=h.fd hf ha hb fun i hi hh=>hs i hi (th hl hh);intro i hi hh;rw [ahb,bsl] at hh
   rcases hh with hh | hh
   · exact hs i hi hh
   exact h2 i hi hh
 exact hs
def aie (h:Mdl N p m E R) {a b:Rw} (ha:R a) (hb:R b):∀ {q:List Fd} {s:AS},(∀ f,f ∈ q -> f ∈ p) -> AgE E a b s -> AgE E a b (ep q s)
 | [],s,_,hs=>hs
 | f :: q,s,hq,hs=>aie h ha hb (q:=q) (s:=gc s f) (fun g hg=>hq g (by simp [hg])) (b3m h ha hb (hq f bvd) hs)
def atm (h:Mdl N p m E R) {a b:Rw} (ha:R a) (hb:R b):∀ {k:Nat} {s:AS},AgE E a b s -> AgE E a b (clF p k s)
 | 0,s,hs=>hs
 | k + 1,s,hs=>by
  unfold clF;split
  · exact hs
  exact atm h ha hb (aie h ha hb (fun _ hf=>hf) hs)
def bed (h:Mdl N p m E R) {a b:Rw} (ha:R a) (hb:R b) {s:AS} (hs:AgE E a b s):AgE E a b (clo p s):=atm h ha hb hs
def uw.mono {s t:AS} (h:uw E R t) (hs:sub s t):uw E R s:=by
 obtain ⟨r,h1,h2⟩:=h;exact ⟨r,h1,fun i hi hh=>h2 i hi (th hs hh)⟩
def aox (h:Mdl N p m E R) {r:Rw} (hr:R r) {z q c:AS} (hz:∀ i:Nat,i < r.length -> c8 z (i:Int) = true -> E (r.getD i default) (i:Int)) (hq:uw E R q) (hc1:sub c (clo p (z &&& q))) (hc2:sub c q) :
 ∀ i:Nat,i < r.length -> c8 (z ||| c) (i:Int) = true -> E (r.getD i default) (i:Int):=by
 obtain ⟨b,hb,hbq⟩:=hq;have hl:r.length = b.length:=(h.len hr).trans (h.len hb).symm;have hag:AgE E r b (z &&& q):=fun i hi hh=>h.trans (hz i hi (th ed hh)) (h.symm (hbq i bv9 (th qk hh)));have hcl:=bed h hr hb hag;intro i hi hh;rw [ahb,bsl] at hh
 rcases hh with hh | hh
 · exact hz i hi hh
 exact h.trans (hcl i hi (th hc1 hh)) (hbq i bv9 (th hc2 hh))
def axp (h:Mdl N p m E R) {s:AS} (hv:gz p s = true) (h1:uw E R (spA p s)) (h2:uw E R (spB p s)):uw E R s:=by
 obtain ⟨x,hx,hxs,hvx⟩:=ajn hv;have e:kg p s = alw p s x:=by unfold kg;rw [hx]
 have ea:spA p s = x ||| ((clo p x &&& s) &&& ~~~x):=by unfold spA;rw [e];rfl
 have eb:spB p s = s &&& ~~~((clo p x &&& s) &&& ~~~x):=by unfold spB;rw [e];rfl
 obtain ⟨r,hr,hrz⟩:=h2;rw [eb] at hrz;refine ⟨r,hr,fun i hi hh=>?_⟩;have:=aox h hr hrz h1 (c:=(clo p x &&& s) &&& ~~~x) ?_ ?_ i hi ?_
 · exact this
 · refine b6 ed (b6 ed (mz ?_))
   rw [ea]
   exact np (np hxs (aq.2 fun i hi hb=>by
    rw [bsv,brv,bsv,hb]
    simp [hi])) qo
 · rw [ea];exact qj
 rw [ahb,bsl];by_cases hb:c8 ((clo p x &&& s) &&& ~~~x) (i:Int) = true
 · exact .inr hb
 left
 have hl:i < 32:=by
  apply Classical.byContradiction;intro hn;rw [xl bv9] at hh;cases hh
 rw [dx hl] at hb hh ⊢;rw [brv,bsv,hh,brt.2 hb];simp [hl]
def bc1 (h:Mdl N p m E R):∀ (f:Nat) (todo out:List AS),gr todo < f -> (∀ q,q ∈ ux p f todo out -> uw E R q) -> (∀ q,q ∈ out -> uw E R q) /\ ∀ s,s ∈ todo -> uw E R s:=by
 intro f
 induction f with
 | zero=>intro _ _ h _;exact absurd h (brg _)
 | succ f ih =>
  intro todo out hm hq;unfold ux at hq;by_cases h0:todo.length = 0
  · rw [if_pos h0] at hq
    have:todo = []:=List.length_eq_zero_iff.1 h0;subst this;exact ⟨hq,fun s hs=>by simp at hs⟩
  rw [if_neg h0] at hq;have hlast:=xi (todo:=todo) bv9;have hms:=ot (todo.take (todo.length - 1)) [todo.getD (todo.length - 1) default];rw [<- hlast] at hms;have hone:gr [todo.getD (todo.length - 1) default] = 3 ^ bsz (todo.getD (todo.length - 1) default):=by unfold gr;simp
  have hp1:0 < 3 ^ bsz (todo.getD (todo.length - 1) default):=Nat.pow_pos bvg;by_cases hv:gz p (todo.getD (todo.length - 1) default) = true
  · rw [if_pos hv] at hq
    obtain ⟨s1,s2,s3,s4⟩:=a5d hv;have b1:=mf s1 s2;have b2:=mf s3 s4
    have hm2:gr (todo.take (todo.length - 1) ++ [spA p (todo.getD (todo.length - 1) default),spB p (todo.getD (todo.length - 1) default)]) < f:=by
     rw [ot];have e2:gr [spA p (todo.getD (todo.length - 1) default),spB p (todo.getD (todo.length - 1) default)] = 3 ^ bsz (spA p (todo.getD (todo.length - 1) default)) + 3 ^ bsz (spB p (todo.getD (todo.length - 1) default)):=by unfold gr;simp
     obtain ⟨k,hk⟩:∃ k,bsz (todo.getD (todo.length - 1) default) = k + 1:=⟨bsz (todo.getD (todo.length - 1) default) - 1,by omega⟩;have p1:3 ^ bsz (spA p (todo.getD (todo.length - 1) default)) <= 3 ^ k:=bsr bvg bv9;have p2:3 ^ bsz (spB p (todo.getD (todo.length - 1) default)) <= 3 ^ k:=bsr bvg bv9;have p3:(3:Nat) ^ (k + 1) = 3 ^ k * 3:=Nat.pow_succ ..;have p4:0 < 3 ^ k:=Nat.pow_pos bvg;rw [hk] at hone;omega
    obtain ⟨i1,i2⟩:=ih _ _ hm2 hq;refine ⟨i1,fun s hs=>?_⟩;rw [hlast] at hs
    rcases brr.1 hs with hs | hs
    · exact i2 s (brz _ hs)
    rw [bru.1 hs];exact axp h hv (i2 _ (bs3 _ bvd)) (i2 _ (bs3 _ bvd))
  rw [if_neg hv] at hq;obtain ⟨i1,i2⟩:=ih _ _ bv9 hq;refine ⟨fun q hq=>i1 q (brz _ hq),fun s hs=>?_⟩;rw [hlast] at hs
  rcases brr.1 hs with hs | hs
  · exact i2 s hs
  rw [bru.1 hs];exact i1 _ (bs3 _ bvd)
end
section
variable {n:Int} {p m:List Fd} {ps:List AS}
section
variable {E:Int -> Int -> Prop} {R:Rw -> Prop}
def ajk (h0:0 <= n) (h:Mdl n.toNat p m E R) (hl:∀ r,r ∈ ax n ps -> R r) {q:AS} (hq:q ∈ ps):uw E R q:=by
 obtain ⟨i,hi,e⟩:=vb hq;refine ⟨stR n i q,hl _ ?_,fun c hc hh=>?_⟩
 · unfold ax
   exact brp.2 ⟨i,brw.2 hi,by rw [e]⟩
 rw [a8q] at hc;rw [ali hc];unfold stV;rw [if_pos hh];exact h.refl _
def amz {c:Nat} (hc:c < n.toNat):(dg n).getD c default = (c:Int):=by
 unfold dg;rw [brc,brx,bsq hc];rfl
def b4x {i:Nat} (h16:n <= 16) (hi:i < n.toNat):c8 (aa n) (i:Int) = true:=by
 rw [dx bv9];unfold aa;rw [bsh bv9,l7 _ _ bv9];exact decide_eq_true hi
def ajs (h16:n <= 16) (h:Mdl n.toNat p m E R) (hf:uw E R (aa n)):R (dg n):=by
 obtain ⟨r,hr,hh⟩:=hf;have hl:=h.len hr;refine h.cong hr (by rw [adu,hl]) fun i hi=>?_;rw [amz bv9];exact hh i hi (b4x h16 bv9)
def al9 (h0:0 <= n) (h8:k6 n p 8 = 0):LR n.toNat p m (ax n (qi n p)) (dg n):=fun E R hm hl=>by
 obtain ⟨hv,hn8⟩:=a3k h8;refine ajs bv9 hm ?_;have hz:=(acl h8).2.1;refine (bc1 hm 6562 [aa n] [] hz fun q hq=>?_).2 _ bvd;rw [am4 h8] at hl;obtain ⟨y,hy,hqy⟩:=yy (show q ∈ a4q n p from hq);exact (ajk h0 hm hl hy).mono hqy
def ana (hm:Mdl n.toNat p m E R) (hq:∀ q,q ∈ ps -> uw E R q) {r:Rw} (hr:R r):∀ (f:Nat) {z:AS},(∀ i:Nat,i < r.length -> c8 z (i:Int) = true -> E (r.getD i default) (i:Int)) -> ∀ i:Nat,i < r.length -> c8 (a0c p ps f z) (i:Int) = true -> E (r.getD i default) (i:Int)
 | 0,z,hz=>hz
 | f + 1,z,hz=>by
  unfold a0c;split
  · exact hz
  rename_i q hqf;refine ana hm hq hr f (aox hm hr hz (hq q (bus hqf)) (c:=a4u p q z) ?_ ?_)
  · exact b6 ed qk
  exact b6 ed ed
def ak0 (h0:0 <= n) (h16:n <= 16) {k:AS} (hk:k ∈ ps) (hkey:clo p k = aa n) (hpr:a4a p ps = true):LR n.toNat p m (ax n ps) (dg n):=fun E R hm hl=>by
 have hq:∀ q,q ∈ ps -> uw E R q:=fun q hq=>ajk h0 hm hl hq;obtain ⟨r,hr,hrk⟩:=hq k hk;refine ajs h16 hm ⟨r,hr,fun i hi hh=>?_⟩;have h1:sub (clo p k) (tw p ps k):=alc (apt.1 hpr) k;rw [hkey] at h1;exact ana hm hq hr 4294967297 hrk i hi (th h1 hh)
end
end
end
section
def lvE (n:Int) (ps:List AS):Int:=if n < 0 \/ 8 < n then 7 else if 64 < ps.length then 3 else if ps.length = 0 \/ ¬ orL ps = aa n then 1 else 0
section
variable {n:Int} {ps:List AS} {p m:List Fd}
def b81 (h:n < 0 \/ 8 < n):lvE n ps = 7:=if_pos h
def bmo (h:¬ (n < 0 \/ 8 < n)) (h2:64 < ps.length):lvE n ps = 3:=by unfold lvE;rw [if_neg h,if_pos h2]
def b79 (h:¬ (n < 0 \/ 8 < n)) (h2:¬ 64 < ps.length) (h3:ps.length = 0 \/ ¬ orL ps = aa n):lvE n ps = 1:=by unfold lvE;rw [if_neg h,if_neg h2,if_pos h3]
def b7s (h:¬ (n < 0 \/ 8 < n)) (h2:¬ 64 < ps.length) (h3:¬ (ps.length = 0 \/ ¬ orL ps = aa n)):lvE n ps = 0:=by unfold lvE;rw [if_neg h,if_neg h2,if_neg h3]
theorem zr (h:lvE n ps = 0):0 <= n /\ n <= 8 /\ ps.length <= 64 /\ 0 < ps.length /\ orL ps = aa n:=by
 unfold lvE at h
 grind
def lsT (n:Int) (ps:List AS) (p m:List Fd):List St × (Int × List Rw) × Int:=ml FU n (bf (ax n ps)) p m
def lsC (n:Int) (ps:List AS) (p m:List Fd):Int:=if lvE n ps = 0 then (if dv n p m = 0 then (lsT n ps p m).2.2 else dv n p m) else lvE n ps
def lsB (n:Int) (ps:List AS) (p m:List Fd):Bool:=decide (lsC n ps p m = 0) && (lsT n ps p m).2.1.2.any fun r=>decide (r = dg n)
def akt (h:lvE n ps = 0) (h2:dv n p m = 0):lsC n ps p m = (lsT n ps p m).2.2:=(if_pos h).trans (if_pos h2)
theorem a7b (h:lsC n ps p m = 0):lvE n ps = 0 /\ dv n p m = 0:=by
 unfold lsC at h
 grind
def bh8 (h:lvE n ps = 0) {q:AS} (hq:q ∈ ps):sub q (aa n):=by
 rw [<- (zr h).2.2.2.2];exact a91 hq
def b4s (h:lvE n ps = 0):j8 n ps = (n,bf (ax n ps),0):=by
 obtain ⟨h0,h8,h64,_⟩:=zr h;exact amm bv9 bv9 fun j hj=>(bl3 h0 bv9).1 (bh8 h (ey hj))
theorem as3 (h:lvE n ps = 0) (hb:dv n p [] = 0):lsC n ps p [] = 0 /\ (lsB n ps p [] = true <-> LR n.toNat p [] (ax n ps) (dg n)):=by
 obtain ⟨h0,h8,h64,_⟩:=zr h
 rcases a6f (m:=[]) h64 hb with ⟨_,e⟩ | ⟨sts,lend,e,h1,_⟩
 · grind
 have ec:lsC n ps p [] = 0:=by rw [akt h hb];unfold lsT;rw [e]
 refine ⟨ec, ?_⟩;unfold lsB lsT
 grind
def aqb (h:bj n p = 0):dv n p [] = 0:=(ay5 (m:=[]) h bvd fun j hj=>absurd hj (brg j)).symm
theorem b78 (h0:0 <= n) (h6:n <= 6) (hd:ps.Nodup) (hs:∀ q,q ∈ ps -> sub q (aa n)):ps.length <= 64:=by
 have hlt:∀ q,q ∈ ps -> q.toNat < 64:=fun q hq=>by
  have h1:=azy (hs q hq);have h2:∀ k,k <= 6 -> (kj k).toNat < 64:=by decide +kernel
  have h3:=h2 (min n.toNat 32) bv9;have h4:(aa n).toNat < 64:=h3;omega
 have hn:(ps.map BitVec.toNat).Nodup:=by
  refine List.Pairwise.map BitVec.toNat (fun a b hab e=>?_) hd;exact hab (bso e)
 have:=hn.length_le_of_subset (l₂:=List.range 64) fun x hx=>by
  grind
 grind
theorem b7j (h0:0 <= n) (h6:n <= 6) (hd:ps.Nodup) (hs:∀ q,q ∈ ps -> sub q (aa n)) (hne:0 < ps.length) (ho:sub (aa n) (orL ps)):lvE n ps = 0:=by
 have h1:=b78 h0 h6 hd hs;have h2:orL ps = aa n:=dw (b0g hs) ho
 exact b7s bv9 bv9 fun e=>by
  grind
theorem b1m {t:AS}:∀ (f:Nat) (todo out:List AS),gr todo < f -> (∀ q,q ∈ ux p f todo out -> sub q t) -> (∀ q,q ∈ out -> sub q t) /\ ∀ s,s ∈ todo -> sub s t:=by
 intro f
 induction f with
 | zero=>intro _ _ h _;exact absurd h (brg _)
 | succ f ih =>
  intro todo out hm hq;unfold ux at hq;by_cases h0:todo.length = 0
  · grind
  rw [if_neg h0] at hq;have hlast:=xi (todo:=todo) bv9;have hms:=ot (todo.take (todo.length - 1)) [todo.getD (todo.length - 1) default];rw [<- hlast] at hms;have hone:gr [todo.getD (todo.length - 1) default] = 3 ^ bsz (todo.getD (todo.length - 1) default):=by unfold gr;simp
  have hp1:0 < 3 ^ bsz (todo.getD (todo.length - 1) default):=Nat.pow_pos bvg;by_cases hv:gz p (todo.getD (todo.length - 1) default) = true
  · rw [if_pos hv] at hq
    obtain ⟨s1,s2,s3,s4⟩:=a5d hv;have b1:=mf s1 s2;have b2:=mf s3 s4
    have hm2:gr (todo.take (todo.length - 1) ++ [spA p (todo.getD (todo.length - 1) default),spB p (todo.getD (todo.length - 1) default)]) < f:=by
     rw [ot];have e2:gr [spA p (todo.getD (todo.length - 1) default),spB p (todo.getD (todo.length - 1) default)] = 3 ^ bsz (spA p (todo.getD (todo.length - 1) default)) + 3 ^ bsz (spB p (todo.getD (todo.length - 1) default)):=by unfold gr;simp
     obtain ⟨k,hk⟩:∃ k,bsz (todo.getD (todo.length - 1) default) = k + 1:=⟨bsz (todo.getD (todo.length - 1) default) - 1,by omega⟩;have p1:3 ^ bsz (spA p (todo.getD (todo.length - 1) default)) <= 3 ^ k:=bsr bvg bv9;have p2:3 ^ bsz (spB p (todo.getD (todo.length - 1) default)) <= 3 ^ k:=bsr bvg bv9
     grind
    obtain ⟨i1,i2⟩:=ih _ _ hm2 hq;refine ⟨i1,fun s hs=>?_⟩;rw [hlast] at hs
    rcases brr.1 hs with hs | hs
    · grind
    rw [bru.1 hs];have c1:=i2 _ (bs3 _ (show spA p (todo.getD (todo.length - 1) default) ∈ _ by simp));have c2:=i2 _ (bs3 _ (show spB p (todo.getD (todo.length - 1) default) ∈ _ by simp));refine aq.2 fun i hi hb=>?_
    cases hr:(kg p (todo.getD (todo.length - 1) default)).rhs.getLsbD i with
    | true=>exact aq.1 c1 i hi (by unfold spA;rw [bt5,hr,Bool.or_true])
    | false=>exact aq.1 c2 i hi (by unfold spB;rw [brv,bsv,hb,hr];simp [hi])
  rw [if_neg hv] at hq;obtain ⟨i1,i2⟩:=ih _ _ bv9 hq
  grind
theorem b5a {t:AS}:∀ (f:Nat) (todo out:List AS),(∀ s,s ∈ todo -> sub s t) -> (∀ q,q ∈ out -> sub q t /\ gz p q = false) -> gr todo < f -> (∀ q,q ∈ ux p f todo out -> sub q t /\ gz p q = false) /\ (0 < todo.length + out.length -> 0 < (ux p f todo out).length):=by
 intro f
 induction f with
 | zero=>intro _ _ _ _ h;exact absurd h (brg _)
 | succ f ih =>
  intro todo out ht ho hm;unfold ux;by_cases h0:todo.length = 0
  · grind
  rw [if_neg h0];have hlast:=xi (todo:=todo) bv9;have hms:=ot (todo.take (todo.length - 1)) [todo.getD (todo.length - 1) default];rw [<- hlast] at hms;have hone:gr [todo.getD (todo.length - 1) default] = 3 ^ bsz (todo.getD (todo.length - 1) default):=by unfold gr;simp
  have hp1:0 < 3 ^ bsz (todo.getD (todo.length - 1) default):=Nat.pow_pos bvg;have hl:=ht _ (ey (l:=todo) (i:=todo.length - 1) bv9);have htk:∀ s,s ∈ todo.take (todo.length - 1) -> sub s t:=fun s hs=>ht s (buf hs);by_cases hv:gz p (todo.getD (todo.length - 1) default) = true
  · rw [if_pos hv]
    obtain ⟨s1,s2,s3,s4⟩:=a5d hv;have b1:=mf s1 s2;have b2:=mf s3 s4
    have hm2:gr (todo.take (todo.length - 1) ++ [spA p (todo.getD (todo.length - 1) default),spB p (todo.getD (todo.length - 1) default)]) < f:=by
     rw [ot];have e2:gr [spA p (todo.getD (todo.length - 1) default),spB p (todo.getD (todo.length - 1) default)] = 3 ^ bsz (spA p (todo.getD (todo.length - 1) default)) + 3 ^ bsz (spB p (todo.getD (todo.length - 1) default)):=by unfold gr;simp
     obtain ⟨k,hk⟩:∃ k,bsz (todo.getD (todo.length - 1) default) = k + 1:=⟨bsz (todo.getD (todo.length - 1) default) - 1,by omega⟩;have p1:3 ^ bsz (spA p (todo.getD (todo.length - 1) default)) <= 3 ^ k:=bsr bvg bv9;have p2:3 ^ bsz (spB p (todo.getD (todo.length - 1) default)) <= 3 ^ k:=bsr bvg bv9
     grind
    obtain ⟨i1,i2⟩:=ih _ out (fun s hs=>by
     rcases brr.1 hs with hs | hs
     · exact htk s hs
     simp only [brm,List.not_mem_nil,or_false] at hs
     rcases hs with rfl | rfl
     · exact b6 s1 hl
     exact b6 s3 hl) ho hm2
    grind
  rw [if_neg hv]
  obtain ⟨i1,i2⟩:=ih (todo.take (todo.length - 1)) (out ++ [todo.getD (todo.length - 1) default]) htk (fun q hq=>by
   rcases brr.1 hq with hq | hq
   · exact ho q hq
   rw [bru.1 hq]
   exact ⟨hl,brt.2 hv⟩) bv9
  grind
theorem b0m (h8:k6 n p 8 = 0) (h6:n <= 6):lvE n (qi n p) = 0 /\ ∀ q,q ∈ qi n p -> gz p q = false:=by
 obtain ⟨hv,_⟩:=a3k h8;obtain ⟨h0,_,_⟩:=fz hv;have hz:=(acl h8).2.1;obtain ⟨i1,i2⟩:=b5a (p:=p) (t:=aa n) 6562 [aa n] [] (fun s hs=>by rw [bru.1 hs];exact fl _) (fun q hq=>by simp at hq) hz;have e:qi n p = j9 (a4q n p):=am4 h8;have hin:∀ q,q ∈ qi n p -> q ∈ a4q n p:=fun q hq=>by rw [e] at hq;exact (zu.1 hq).1
 refine ⟨b7j h0 h6 (by rw [e];exact ax4 _) (fun q hq=>(i1 q (hin q hq)).1) ?_ ?_,fun q hq=>(i1 q (hin q hq)).2⟩
 · have h1:0 < (a4q n p).length:=i2 bvd
   obtain ⟨y,hy,_⟩:=yy (ey h1)
   grind
 refine (b1m (p:=p) 6562 [aa n] [] hz fun q hq=>?_).2 _ bvd;obtain ⟨y,hy,hqy⟩:=yy (show q ∈ a4q n p from hq);rw [e];exact b6 hqy (a91 hy)
def b5y (n:Int) (p:List Fd) (ps:List AS):Bool:=lsB n ps p [] && !ps.any (gz p)
theorem b8m (h8:k6 n p 8 = 0) (h6:n <= 6):lsC n (qi n p) p [] = 0 /\ b5y n p (qi n p) = true:=by
 obtain ⟨hv,_⟩:=a3k h8;obtain ⟨h0,_,_⟩:=fz hv;obtain ⟨h1,h2⟩:=b0m h8 h6;obtain ⟨h3,h4⟩:=as3 h1 (aqb hv);refine ⟨h3, ?_⟩;unfold b5y;rw [h4.2 (al9 h0 h8),btn,bsd,bt1]
 grind
end
end
section
abbrev tbC (a:Int × List Rw):Nat -> PV:=fun j=>[.raw (.int .i64 a.1),rl a.2].getD j .any
def lcR (n:Int) (ps:List AS) (p m:List Fd):(Int × List Rw) × List St × (Int × List Rw) × Int :=
 if lvE n ps = 0 then (if dv n p m = 0 then ((n,bf (ax n ps)),(lsT n ps p m).1,(lsT n ps p m).2.1,(lsT n ps p m).2.2) else ((0,[]),[],(0,[]),dv n p m)) else ((0,[]),[],(0,[]),lvE n ps)
section
variable {n:Int} {ps:List AS} {p m:List Fd} {l lend:List Rw}
def blm (h:¬ lvE n ps = 0):lcR n ps p m = ((0,[]),[],(0,[]),lvE n ps):=if_neg h
def blf (h:lvE n ps = 0) (h2:¬ dv n p m = 0):lcR n ps p m = ((0,[]),[],(0,[]),dv n p m):=(if_pos h).trans (if_neg h2)
def b8k (h:lvE n ps = 0) (h2:dv n p m = 0):lcR n ps p m = ((n,bf (ax n ps)),(lsT n ps p m).1,(lsT n ps p m).2.1,(lsT n ps p m).2.2):=(if_pos h).trans (if_pos h2)
def abv:(lcR n ps p m).2.2.2 = lsC n ps p m:=by
 unfold lcR lsC;split
 · split <;> rfl
 rfl
def b8f:∀ {sts:List St} {l:List Rw} {i:Nat},TrZ n p m lend l sts -> i <= sts.length -> TrZ n p m lend ((trL n p m l sts).getD i default) (sts.drop i)
 | [],l,0,h,_=>h
 | s :: r,l,0,h,_=>h
 | s :: r,l,i + 1,h,hi=>by
  obtain ⟨_,_,l',e,_,h⟩:=h;unfold trL;rw [e];exact b8f (i:=i) h (by simpa using hi)
def au9:∀ {sts:List St} {l:List Rw} {i:Nat},i < sts.length -> (trL n p m l sts).getD (i + 1) default = (dp n ((trL n p m l sts).getD i default) p m (sts.getD i default)).2.1
 | [],l,i,hi=>by simp at hi
 | s :: r,l,0,_=>by
  unfold trL
  cases r with
  | nil=>rfl
  | cons s2 r2=>rfl
 | s :: r,l,i + 1,hi=>by
  unfold trL;exact au9 (sts:=r) (i:=i) (by simpa using hi)
section
variable {sts:List St}
def atp:(trL n p m l sts).getD 0 default = l:=by cases sts <;> rfl
def vj (n:Int) (p m:List Fd) (l:List Rw) (sts:List St):List (Int × List Rw):=(trL n p m l sts).map fun t=>(n,t)
def an3:(vj n p m l sts).length = sts.length + 1:=by unfold vj;rw [bsc,ah2]
def agc {i:Nat} (hi:i <= sts.length):(vj n p m l sts).getD i default = (n,(trL n p m l sts).getD i default):=by
 unfold vj;have:i < (trL n p m l sts).length:=by rw [ah2];omega
 rw [brc,brx,brb this,brc,brb this];rfl
def rcR (n:Int) (ps:List AS) (p m:List Fd):List St × List (Int × List Rw) × Int :=
 if lsC n ps p m = 0 then ((lsT n ps p m).1,vj n p m (bf (ax n ps)) (lsT n ps p m).1,0) else ([],[],lsC n ps p m)
def auz (h:lsC n ps p m = 0):rcR n ps p m = ((lsT n ps p m).1,vj n p m (bf (ax n ps)) (lsT n ps p m).1,0):=if_pos h
def b25 (h:lvE n ps = 0) (hb:dv n p m = 0) (hc:(lsT n ps p m).2.2 = 0):∃ sts lend,lsT n ps p m = (sts,(n,lend),0) /\ TrZ n p m lend (bf (ax n ps)) sts /\ tok n lend = true /\ ((∃ t,t ∈ trL n p m (bf (ax n ps)) sts /\ dg n ∈ t) <-> dg n ∈ lend):=by
 rcases a6f (zr h).2.2.1 hb with ⟨e,_⟩ | ⟨sts,lend,e,h1,h2,h3,h4⟩
 · unfold lsT at hc
   rw [e] at hc;exact absurd hc bvg
 exact ⟨sts,lend,e,h2,h3,h4⟩
def b1n {p m:List Fd}:∀ (F:Nat) (n:Int) (l:List Rw) (acc:List St),(j6 F n l p m acc).1.length <= acc.length + F:=by
 intro F
 induction F with
 | zero=>intro n l acc;unfold j6;simp
 | succ F ih =>
  intro n l acc;unfold j6;split
  · simp
  rename_i s _;split;rename_i n' l' e _;split
  · have:=ih n' l' (acc ++ [s])
    simp only [brh,bst] at this;omega
  simp
def ba0 (h:lvE n ps = 0) (hb:dv n p m = 0):(lsT n ps p m).1.length <= FU:=by
 obtain ⟨h0,h8,h64,_⟩:=zr h;have hT:=aco (ps:=ps) h0 bv9 h64;have hck:ckE n (bf (ax n ps)) p m = 0:=(if_pos hT).trans hb;unfold lsT;rw [a4i hck];have:=b1n (p:=p) (m:=m) FU n (bf (ax n ps)) [];simpa using this
def n9 (n:Int) (t:List Rw):Bool:=t.any fun r=>decide (r = dg n)
def prX (n:Int) (ps:List AS) (p m:List Fd):Int:=idx (fun a:Int × List Rw=>n9 n a.2) (rcR n ps p m).2.1
def prC (n:Int) (ps:List AS) (p m:List Fd):Int:=if (rcR n ps p m).2.2 = 0 then (if prX n ps p m < 0 then 11 else 0) else (rcR n ps p m).2.2
def prS (n:Int) (ps:List AS) (p m:List Fd):List St:=if (rcR n ps p m).2.2 = 0 then (if prX n ps p m < 0 then [] else (rcR n ps p m).1.take (prX n ps p m).toNat) else []
def abh:(rcR n ps p m).2.2 = lsC n ps p m:=by
 unfold rcR;split
 · rename_i h;exact h.symm
 rfl
def b8q (hc:lsC n ps p m = 0):(0 <= prX n ps p m) <-> lsB n ps p m = true:=by
 obtain ⟨h1,h2⟩:=a7b hc;have hc2:(lsT n ps p m).2.2 = 0:=(akt h1 h2).symm.trans hc;obtain ⟨sts,lend,e,_,_,h3⟩:=b25 h1 h2 hc2
 have e1:lsB n ps p m = decide (dg n ∈ lend):=by
  unfold lsB;rw [decide_eq_true hc,btn,e];exact a19
 have e2:(rcR n ps p m).2.1 = vj n p m (bf (ax n ps)) sts:=by rw [auz hc,e]
 have e3:(vj n p m (bf (ax n ps)) sts).any (fun a=>n9 n a.2) = decide (0 <= prX n ps p m):=by
  unfold prX;rw [e2];exact a2v.symm
 rw [e1,decide_eq_true_iff,<- h3,<- decide_eq_true_iff (p:=0 <= prX n ps p m),<- e3,bsf];unfold vj n9;constructor
 · rintro ⟨x,hx,h⟩
   obtain ⟨t,ht,rfl⟩:=brp.1 hx;exact ⟨t,ht,by rw [a19] at h;exact of_decide_eq_true h⟩
 rintro ⟨t,ht,h⟩;exact ⟨(n,t),brp.2 ⟨t,ht,rfl⟩,by rw [a19];exact decide_eq_true h⟩
end
end
end
section
open Go.Proofs
def b0r {n:Int} {ps:List AS} {p m:List Fd} (h:lvE n ps = 0) (hb:dv n p m = 0) (hc:(lsT n ps p m).2.2 = 0):TrZ n p m (lsT n ps p m).2.1.2 (bf (ax n ps)) (lsT n ps p m).1:=by
 obtain ⟨sts,lend,e,htr,_⟩:=b25 h hb hc;rw [e];exact htr
def b5c {n:Nat} {l:List St} {i:Nat} {cl:Bool} (hn:n = (l.take i).length) {f:Nat -> Nat -> PV} (hf:∀ a j,f a j = lf St.c l a j):CoP (.sl n 4 cl f) (stl (l.take i)):=by
 refine CoP.sl hn.symm (.inl rfl) (fun h=>by cases h) fun a j ha hj=>CoP.of_eq ?_;rw [hf];show St.c (l.getD a default) j = St.c ((l.take i).getD a default) j;have:a < i:=by rw [hn,brl] at ha;omega
 rw [brc,brc,bsa,if_pos this]
def atc (n:Int) (ps:List AS) (h:lvE n ps = 0):a6 bw0 98 [pI n,pP (asl ps)] (af [pT n (bf (ax n ps)),pI 0]):=by
 have:=bfu n ps;rw [b4s h] at this;exact this
def bch (n:Int) (ps:List AS) (p m:List Fd):a6 bw0 142 [pT n (bf (ax n ps)),pP (fdl p),pP (fdl m)] (af [pP (stl (lsT n ps p m).1),pT (lsT n ps p m).2.1.1 (lsT n ps p m).2.1.2,pI (lsT n ps p m).2.2]) :=
 bg3 FU n (bf (ax n ps)) p m (fun h=>b0h h) bvg
def bkw {n:Int} {p m:List Fd} {l lend:List Rw} {sts:List St} {i:Nat} (hi:i < sts.length) (h:TrZ n p m lend l (sts.drop i)):tok n l = true /\ a2a l p m (sts.getD i default) /\ dp n l p m (sts.getD i default) = (n,(dp n l p m (sts.getD i default)).2.1,0):=by
 have e:sts.drop i = sts.getD i default :: sts.drop (i + 1):=by
  rw [bty hi,brc,brb hi];rfl
 rw [e] at h;obtain ⟨h1,h2,l',h3,h4,h5⟩:=h;rw [h3];exact ⟨h1,h2,rfl⟩
end
section
open Go.Proofs
def big (ps:List AS):a6 bw0 125 [pP (asl ps)] (af [pA (orL ps)]):=by
 refine hpx (nt:=17) Tryz.func125 ?_;refine dc ?_;refine cu 0 rfl fun hn=>?_;refine w_6 ?_;refine br (ka 6 (ka 7 kn)) km (fun i=>⟨[(3,some (vA (orL (ps.take i)))),(8,some (vI i))],[]⟩) ps.length ⟨⟨⟨_,rfl,(CoR.refl _)⟩,tt⟩,trivial⟩ ?_;rintro i hi;refine w_5 ?_;refine hcd (fun h0=>?_) (fun h0=>?_)
 · refine ahc ?_;exact lpx (i + 1) ⟨⟨⟨_,rfl,(oi (by rw [bOr,b2x bv9];rfl))⟩,tt⟩,trivial⟩
 obtain rfl:i = ps.length:=by omega
 refine v_6 ?_;exact ⟨cci (by rw [bro]),trivial⟩
def aqh:goodFn bw0 70:=wgx Tryz.func70
def ahk (n:Int) (ps:List AS):a6 bw0 70 [pI n,pP (asl ps)] (af [pI (lvE n ps)]):=by
 refine hpx (nt:=28) Tryz.func70 ?_;refine j3 ?_;refine aw rfl rfl (fun r0=>?_) (fun r0=>?_)
 ·
  have h0:=tz1 r0;(iterate 2 refine k9 (gtf r0) ?_);refine w_8 ?_
  exact hx8 rfl rfl rfl (⟨cci (b81 bv9).symm,trivial⟩)
 have h0:=tz2 r0;(iterate 2 refine qy ?_ (hg:=(gff r0)));refine w_3 ?_;refine au _ rfl (fun r1=>?_) (fun r1=>?_)
 · have h1:=tz1 (be r0 r1);refine v_4 ?_;exact ⟨cci (b81 bv9).symm,trivial⟩
 have h1:=tz2 (be r0 r1);have hz0:0 <= n:=by omega
 have hz1:n <= 16:=by omega
 refine w_7 ?_;refine hcd (fun h2=>?_) (fun h2=>?_)
 · refine v_4 ?_;exact ⟨cci (bmo bv9 bv9).symm,trivial⟩
 refine w_6 ?_;refine aw rfl rfl (fun r3=>?_) (fun r3=>?_)
 ·
  have h3:=tz1 r3;(iterate 6 refine k9 (gtf r3) ?_);refine w_9 ?_
  exact hx8 rfl rfl rfl (⟨cci (b79 bv9 bv9 (by first | exact .inl bv9 | exact .inr (fun e=>absurd (show asI (orL ps) = IntKind.wrap .u32 (1 * 2 ^ (min n.toNat 32)) - 1 by rw [qw hz0 hz1,e]) bva))).symm,trivial⟩)
 have h3:=tz2 r3;refine qy ?_ (hg:=(gff r3));refine qcx (wgx Tryz.func125) (big ps) ?_ (hg:=(gff r3));(iterate 2 refine qy ?_ (hg:=(gff r3)));refine rq rfl rfl rfl rfl (gff r3) ?_ (hp:=⟨ua hz0 hz1,qq hz0 hz1⟩);refine qy ?_ (hg:=(gff r3));refine w_4 ?_;refine au _ rfl (fun r4=>?_) (fun r4=>?_)
 · have h4:=tz2 (eg (be r3 r4));refine v_4 ?_;exact ⟨cci (b79 bv9 bv9 (by first | exact .inl bv9 | exact .inr (fun e=>absurd (show asI (orL ps) = IntKind.wrap .u32 (1 * 2 ^ (min n.toNat 32)) - 1 by rw [qw hz0 hz1,e]) bva))).symm,trivial⟩
 have h4:=tz1 (ek (be r3 r4));refine w_6 ?_;refine ⟨.inr rfl, ?_⟩
 exact ⟨_,_,_,_,rfl,(by (repeat' apply And.intro) <;> first | trivial | exact brf rfl | rfl),rfl,(by (repeat' apply And.intro) <;> first | trivial | exact brf rfl | rfl),⟨cci (b7s bv9 bv9 (fun e=>by
  rcases e with e | e
  · omega
  exact e (dj.1 ((by assumption:asI (orL ps) = IntKind.wrap .u32 (1 * 2 ^ (min n.toNat 32)) - 1).trans (qw hz0 hz1))))).symm,trivial⟩⟩
def bby (n:Int) (ps:List AS) (p m:List Fd):a6 bw0 93 [pI n,pP (asl ps),pP (fdl p),pP (fdl m)] (af [pT (lcR n ps p m).1.1 (lcR n ps p m).1.2,pP (stl (lcR n ps p m).2.1),pT (lcR n ps p m).2.2.1.1 (lcR n ps p m).2.2.1.2,pI (lcR n ps p m).2.2.2]):=by
 refine hpx (nt:=58) Tryz.func93 ?_;refine sx7 ?_;refine m9 0 ?_;refine qy ?_;refine m9 1 ?_;refine w_7 ?_;refine qcx aqh (ahk n ps) ?_;refine w_7 ?_;refine hcn (fun h0=>?_) (fun h0=>?_)
 · refine dc ?_;refine hrr ?_;have he:=blm (p:=p) (m:=m) (by assumption:¬ lvE n ps = 0);exact f9 rfl rfl (by rw [he];exact ⟨CoC.agg ⟨CoP.refl _,du,trivial⟩,CoC.one (CoP.sl rfl (.inr rfl) (fun _=>rfl) (fun i j hi _=>absurd hi (brg i))),CoC.agg ⟨CoP.refl _,du,trivial⟩,CoC.refl _,trivial⟩)
 have hv:lvE n ps = 0:=by assumption
 refine w_7 ?_;refine qcx anu (ah5 n p m) ?_;refine w_7 ?_;refine hcn (fun h1=>?_) (fun h1=>?_)
 · refine dc ?_;refine hrr ?_;have he:=blf hv (by assumption:¬ dv n p m = 0);exact f9 rfl rfl (by rw [he];exact ⟨CoC.agg ⟨CoP.refl _,du,trivial⟩,CoC.one (CoP.sl rfl (.inr rfl) (fun _=>rfl) (fun i j hi _=>absurd hi (brg i))),CoC.agg ⟨CoP.refl _,du,trivial⟩,CoC.refl _,trivial⟩)
 have hb:dv n p m = 0:=by assumption
 refine w_5 ?_;refine qcx (wgx Tryz.func98) (atc n ps hv) ?_;refine w_3 ?_;refine m9 2 ?_;refine v7 ?_;refine qcx (wgx Tryz.func142) (bch n ps p m) ?_;refine w_4 ?_;refine m9 3 ?_;refine v7 ?_;refine hrr ?_;have he:=b8k hv hb;exact f9 rfl rfl (by rw [he];exact CoL.refl _)
def aus (n:Int) (h0:0 <= n) (h1:n <= 16):a6 bw0 95 [pI n] (af [pZ (dg n)]):=by
 refine hpx (nt:=18) Tryz.func95 ?_;refine w_7 ?_;refine m9 0 ?_;refine dc ?_;refine br (ka 3 (ka 8 kn)) km (fun k=>⟨[(9,some (vI k))],[(0,some (.arr true 1 3 n.toNat (lf zC (stT n 0 (kj 32) k))))]⟩) n.toNat ⟨tt,⟨⟨_,rfl,(alt rfl (fun _=>rfl))⟩,trivial⟩⟩ ?_;rintro k hk;refine w_5 ?_;refine hcd (fun h0=>?_) (fun h0=>?_)
 · refine ahc ?_;exact lpx (k + 1) ⟨tt,⟨⟨_,rfl,(bhl (b1k bv9) rfl bv9)⟩,trivial⟩⟩
 refine w_2 ?_;refine bn 3 rfl rfl rfl ?_;refine v_4 ?_;exact ⟨az0 h1 bv9,trivial⟩
end
section
inductive Lf (l:List Fd):AS -> AS -> Prop
 | leaf {s:AS}:gz l s = false -> Lf l s s
 | left {s q:AS}:gz l s = true -> Lf l (spA l s) q -> Lf l s q
 | right {s q:AS}:gz l s = true -> Lf l (spB l s) q -> Lf l s q
def bh1 (l:List Fd):Nat -> AS -> List AS
 | 0,s=>[s]
 | k + 1,s=>if gz l s = true then bh1 l k (spA l s) ++ bh1 l k (spB l s) else [s]
def b7z {s:Nat} {f:Nat -> Nat -> PV}:CoC (.one (.sl 0 s true f)) (pP (fdl [])):=CoC.one (CoP.sl rfl (.inr rfl) (fun h=>by cases h) fun i j hi _=>absurd hi (brg i))
end
section
open Go.Proofs
def u8A (b:BitVec 8):AS:=b.setWidth 32
abbrev u8C:BitVec 8 -> Nat -> PV:=fun b _=>.raw (.int .u8 (b.toNat:Int))
end
section
open Go.Proofs Go.Proofs.YtnlcekpflogjkaaGreatDoor
open Go.RowKit Go.ChangeShapes Go.WideShapes Go.ChangeAt
def rd5:Rd bw0 5 1 u8C:=(b8a Tryz.underlying5).co (fun u=>u.toBitVec) fun a j hj=>CoP.refl _
end
section
section
variable {b:AS}
def apj {a:AS} (h:∀ i,i < 32 -> a.getLsbD i = b.getLsbD i):a = b:=bt0 h
def bfg {s:AS} (h:s ≠ 0):∃ i,i < 32 /\ s.getLsbD i = true:=by
 apply Classical.byContradiction;intro hn;refine h (apj fun i hi=>?_)
 cases hs:s.getLsbD i with
 | false=>simp
 | true=>exact absurd ⟨i,hi,hs⟩ hn
def bgi {s:AS} {i:Nat} (h:s.getLsbD i = true):i < 32:=BitVec.lt_of_getLsbD h
def a0i {s t:AS} {i:Nat} (hi:i < 32):(s &&& ~~~t).getLsbD i = (s.getLsbD i && !t.getLsbD i):=by simp [hi]
def bgz (a:Nat):AS:=1#32 <<< a
def a0m (m:Fd) (b:AS):Bool:=decide (b &&& m.lhs = 0) && (decide (b &&& m.rhs ≠ 0) && decide (b &&& ~~~m.rhs ≠ 0))
def hdB (m:Fd) (b:AS):AS:=if a0m m b = true then b &&& m.rhs else b
def tlB (m:Fd) (b:AS):List AS:=if a0m m b = true then [b &&& ~~~m.rhs] else []
def stB (m:Fd) (l:List AS) (i:Nat):List AS:=(l.take i).map (hdB m) ++ l.drop i ++ (l.take i).flatMap (tlB m)
def rdB (m:Fd) (l:List AS):List AS:=l.map (hdB m) ++ l.flatMap (tlB m)
def bjw (ms:List Fd) (l:List AS):List AS:=ms.foldl (fun l m=>rdB m l) l
def bfe:List Fd -> List AS -> Bool
 | [],_=>false
 | m :: ms,l=>l.any (a0m m) || bfe ms (rdB m l)
def b5h (ms:List Fd):Nat -> List AS -> List AS
 | 0,l=>l
 | f + 1,l=>if bfe ms l = true then b5h ms f (bjw ms l) else bjw ms l
def muB:List AS -> Nat
 | []=>0
 | b :: l=>b.toNat * b.toNat + muB l
def b4d {m:Fd}:a0m m b = true <-> b &&& m.lhs = 0 /\ b &&& m.rhs ≠ 0 /\ b &&& ~~~m.rhs ≠ 0:=by simp [a0m]
structure Blk (ms:List Fd) (rest:AS) (bs:List AS):Prop where
 nz:∀ b ∈ bs,b ≠ 0
 cnt:∀ a,a < 32 -> bs.countP (fun b=>b.getLsbD a) = if rest.getLsbD a = true then 1 else 0
 ind:∀ G:AS -> Prop,G rest -> (∀ m ∈ ms,∀ b,G b -> a0m m b = true -> G (b &&& m.rhs) /\ G (b &&& ~~~m.rhs)) -> ∀ b ∈ bs,G b
variable {bs:List AS} {ms:List Fd} {rest:AS}
theorem Blk.rd (h:Blk ms rest bs) {m:Fd} (hm:m ∈ ms):Blk ms rest (rdB m bs):=by
 have hmem:∀ {b:AS},b ∈ rdB m bs -> ∃ b0 ∈ bs,(a0m m b0 = false /\ b = b0) \/ (a0m m b0 = true /\ (b = b0 &&& m.rhs \/ b = b0 &&& ~~~m.rhs)):=by
  intro b hb;unfold rdB at hb
  rcases brr.1 hb with hb | hb
  · obtain ⟨b0,h0,rfl⟩:=brp.1 hb
    refine ⟨b0,h0, ?_⟩;cases hs:a0m m b0 <;> simp [hdB,hs]
  obtain ⟨b0,h0,hb⟩:=List.mem_flatMap.1 hb;refine ⟨b0,h0, ?_⟩;cases hs:a0m m b0
  · simp [tlB,hs] at hb
  simp [tlB,hs] at hb;exact .inr ⟨rfl, .inr hb⟩
 refine ⟨fun b hb=>?_,fun a ha=>?_,fun G h0 hG b hb=>?_⟩
 · obtain ⟨b0,h0,⟨_,rfl⟩ | ⟨hs,hb⟩⟩:=hmem hb
   · exact h.nz _ h0
   obtain ⟨_,h2,h3⟩:=b4d.1 hs
   rcases hb with rfl | rfl
   · exact h2
   exact h3
 · rw [<- h.cnt a ha]
   have:∀ l:List AS,(l.map (hdB m)).countP (fun b=>b.getLsbD a) + (l.flatMap (tlB m)).countP (fun b=>b.getLsbD a) = l.countP (fun b=>b.getLsbD a):=by
    intro l
    induction l with
    | nil=>rfl
    | cons b l ih =>
     rw [bt3,bup,List.countP_append,buh,buh,<- ih];cases hs:a0m m b
     · simp [hdB,tlB,hs];omega
     simp only [hdB,tlB,hs,if_true,buh,List.countP_nil,a0i ha,brv];cases b.getLsbD a <;> cases m.rhs.getLsbD a <;> simp <;> omega
   unfold rdB;rw [List.countP_append];exact this bs
 obtain ⟨b0,h1,⟨_,rfl⟩ | ⟨hs,hb⟩⟩:=hmem hb
 · exact h.ind G h0 hG _ h1
 obtain ⟨g1,g2⟩:=hG m hm b0 (h.ind G h0 hG _ h1) hs
 rcases hb with rfl | rfl
 · exact g1
 exact g2
def aom (rest:AS):List AS:=if rest = 0 then [] else [rest]
theorem Blk.start (ms:List Fd) (rest:AS):Blk ms rest (aom rest):=by
 unfold aom;by_cases h:rest = 0
 · subst h
   simp only [if_true];exact ⟨fun _ h=>by (cases h),fun a ha=>by simp,fun _ _ _ _ h=>by cases h⟩
 rw [if_neg h];exact ⟨fun b hb=>by (simp at hb;subst hb;exact h),fun a ha=>by simp [buh],fun G h0 _ b hb=>by (simp at hb;subst hb;exact h0)⟩
def blks (ms:List Fd) (rest:AS):List AS:=b5h ms 18446744073709551616 (aom rest)
def ax8 {p:AS -> Bool} {l:List AS} (h:l.countP p <= 1) {a:AS} (ha:a ∈ l) (hb:b ∈ l) (pa:p a = true) (pb:p b = true):a = b:=by
 rw [List.countP_eq_length_filter] at h;have h1:a ∈ l.filter p:=bt4.2 ⟨ha,pa⟩;have h2:b ∈ l.filter p:=bt4.2 ⟨hb,pb⟩
 cases hl:l.filter p with
 | nil=>rw [hl] at h1;cases h1
 | cons x r =>
  rw [hl] at h h1 h2
  cases r with
  | nil=>simp at h1 h2;rw [h1,h2]
  | cons=>simp at h
theorem Blk.one (h:Blk ms rest bs) {b':AS} (hb:b ∈ bs) (hb':b' ∈ bs) {a:Nat} (h1:b.getLsbD a = true) (h2:b'.getLsbD a = true):b = b':=by
 refine ax8 (p:=fun b=>b.getLsbD a) ?_ hb hb' h1 h2;rw [h.cnt a (bgi h1)];split <;> omega
theorem Blk.sub (h:Blk ms rest bs) (hb:b ∈ bs):Go.Hx.sub b rest:=aq.2 fun a ha hba=>by
 have h1:=h.cnt a ha;have h2:0 < bs.countP (fun b=>b.getLsbD a):=List.countP_pos_iff.2 ⟨b,hb,hba⟩
 cases hr:rest.getLsbD a with
 | true=>rfl
 | false=>rw [hr] at h1;simp only [bui,if_false] at h1;omega
end
end
section
def sgl (f:Fd):List Fd:=(aj f.rhs).map fun a=>⟨f.lhs,bgz a⟩
def bjz (fs ms:List Fd):List Fd:=ms ++ fs.flatMap sgl
def sc (T:List AS) (r:AS):List AS:=if r ∈ T then T else T ++ [r]
def aar {T:List AS} {r z:AS}:z ∈ sc T r <-> z ∈ T \/ z = r:=by
 unfold sc;split
 · rename_i h
   constructor
   · exact .inl
   rintro (h2 | rfl)
   · exact h2
   exact h
 simp
def yb {T:List AS} {r:AS} (h:T.Nodup):(sc T r).Nodup:=by
 unfold sc;split
 · exact h
 rename_i hr;rw [List.nodup_append];exact ⟨h,by simp,fun a ha b hb=>by simp at hb;subst hb;rintro rfl;exact hr ha⟩
def ado (s:AS) (o:List AS) (T:List AS):List AS:=T.foldl (fun o r=>sc o (r &&& ~~~s)) o
def tu (T:List AS) (s:AS):List AS:=ado s [] T
def aax {s:AS}:∀ {T o:List AS},(o.Nodup -> (ado s o T).Nodup) /\ ∀ z,z ∈ ado s o T <-> z ∈ o \/ ∃ r ∈ T,z = r &&& ~~~s
 | [],o=>⟨fun h=>h,fun z=>by simp [ado]⟩
 | r :: T,o=>by
  obtain ⟨h1,h2⟩:=aax (s:=s) (T:=T) (o:=sc o (r &&& ~~~s));refine ⟨fun h=>h1 (yb h),fun z=>?_⟩;show z ∈ ado s (sc o (r &&& ~~~s)) T <-> _;rw [h2 z,aar];simp only [brm];constructor
  · rintro ((h | h) | ⟨q,hq,h⟩)
    · exact .inl h
    · exact .inr ⟨r, .inl rfl,h⟩
    exact .inr ⟨q, .inr hq,h⟩
  rintro (h | ⟨q,rfl | hq,h⟩)
  · exact .inl (.inl h)
  · exact .inl (.inr h)
  exact .inr ⟨q,hq,h⟩
def aaw {T:List AS} {s z:AS}:z ∈ tu T s <-> ∃ r ∈ T,z = r &&& ~~~s:=by
 have:=(aax (s:=s) (T:=T) (o:=[])).2 z;simpa [tu] using this
def af6 (T:List AS) (s:AS):(tu T s).Nodup:=(aax (s:=s) (T:=T) (o:=[])).1 List.nodup_nil
def a2j (d:Fd) (r k:AS):AS:=(r &&& (d.lhs ||| d.rhs)) ||| (k &&& ~~~(d.lhs ||| d.rhs))
def agB (d:Fd) (r k:AS):Bool:=decide ((r ^^^ k) &&& d.lhs = 0)
def b4r {d:Fd} {r k:AS} {i:Nat} (hi:i < 32):(a2j d r k).getLsbD i = (if d.lhs.getLsbD i || d.rhs.getLsbD i then r.getLsbD i else k.getLsbD i):=by
 unfold a2j;rw [bt5,a0i hi,brv,bt5];cases d.lhs.getLsbD i <;> cases d.rhs.getLsbD i <;> simp
structure bm9 (fs ms:List Fd) (T:List AS):Prop where
 fd:∀ d ∈ fs,∀ r ∈ T,∀ k ∈ T,agB d r k = true -> (r ^^^ k) &&& d.rhs = 0
 mv:∀ d ∈ ms,∀ r ∈ T,∀ k ∈ T,agB d r k = true -> a2j d r k ∈ T
def bkc (fs:List Fd) (bs:List AS) (a:Nat):Prop:=bgz a ∈ bs /\ ∃ f ∈ fs,f.rhs.getLsbD a = true /\ f.lhs.getLsbD a = false
structure JT (fs:List Fd) (bs:List AS) (rest:AS) (T:List AS):Prop where
 z:(0:AS) ∈ T
 r:∀ r ∈ T,sub r rest /\ ∀ b ∈ bs,b &&& r = 0 \/ sub b r
 top:∃ L ∈ T,(∀ r ∈ T,sub r L) /\ ∀ a,a < 32 -> rest.getLsbD a = true -> L.getLsbD a = false -> bkc fs bs a
section
variable {fs ms:List Fd} {bs:List AS} {rest:AS} {T:List AS}
def bpr (T:List AS) (b:AS):Prop:=∀ r ∈ T,∀ k ∈ T,((r &&& b) ||| (k &&& ~~~b)) ∈ T
structure bqc (fs ms:List Fd) (bs:List AS) (rest:AS) (T:List AS):Prop where
 j:JT fs bs rest T
 c:bm9 fs ms T
def qB (T:List AS) (L x rest y:AS):Prop:=y ≠ 0 /\ sub y rest /\ (L &&& ~~~(x ||| y)) ∈ T
end
end
section
def bhm:List AS -> Nat
 | []=>0
 | b :: l=>b.toNat + bhm l
def OkB (l:List AS):Prop:=bhm l < 4294967296 /\ ∀ b ∈ l,b ≠ 0
def bqu (l:List AS) (i:Nat):Nat -> Nat -> PV:=fun k c=>if k < i then .any else sC (l.getD k default) c
structure BkI (ms:List Fd) (R:List AS) (x:Nat × List AS × Bool):Prop where
 ok:OkB x.2.1
 t:x.2.2 = true -> b5h ms x.1 x.2.1 = R /\ muB x.2.1 < x.1
 f:x.2.2 = false -> x.2.1 = R
def ckB (n:Int) (l m:List Fd) (s:AS):Int:=if dv n l m = 0 then (if s >>> n.toNat = 0 then 0 else 1) else dv n l m
def bqg (fs ms:List Fd) (i k:Nat):List Fd:=ms ++ (fs.take i).flatMap sgl ++ (sgl (fs.getD i default)).take k
end
section
open Go.Proofs
def bq8 (x:Nat × List AS × Bool):Nat:=x.1 + (bif x.2.2 then 1 else 0)
end
section
def bn3 (b:AS) (f:Fd):Bool:=!decide ((f.rhs &&& ~~~f.lhs) &&& b = 0)
def ba2 (l:List Fd) (o b:AS):AS:=if bsz b = 1 then (if l.any (bn3 b) = true then o ||| b else o) else o
def bnh (l:List Fd) (o:AS) (bs:List AS):AS:=bs.foldl (ba2 l) o
section
variable {l:List Fd} {o:AS} {bs:List AS} {i:Nat}
end
def b3o (n:Int) (l m:List Fd) (x:AS):List AS:=ord (blks (bjz l m) (aa n &&& ~~~x))
def br5 (n:Int) (l m:List Fd) (x:AS):List AS:=if ckB n l m x = 0 then b3o n l m x else []
def bf2 (n:Int) (l m:List Fd) (x:AS):AS:=bnh l x (b3o n l m x)
def bqp (n:Int) (l m:List Fd) (x:AS):AS:=if ckB n l m x = 0 then bf2 n l m x else 0
def bnz (p:AS) (bs:List AS):List AS:=(bs.filter fun b=>!decide (b &&& p = 0)).map fun b=>b &&& p
def b2t (n:Int) (l m:List Fd) (x p:AS):List AS:=ord (bnz p (b3o n l m x))
def ck4 (n:Int) (l m:List Fd) (s:AS):Int:=if n < 0 \/ 8 < n then 7 else ckB n l m s
def bqe (n:Int) (l m:List Fd) (x p:AS):List AS:=if ck4 n l m (x ||| p) = 0 then b2t n l m x p else []
def boa (n:Int) (l m:List Fd) (p x:AS):Option Fd:=if p &&& ~~~(bf2 n l m x) = 0 then none else if 1 < (b2t n l m x p).length then some ⟨x,(b2t n l m x p).getD 0 default⟩ else none
def b3f (n:Int) (l m:List Fd) (p:AS):Option Fd:=(c4 p).findSome? (boa n l m p)
def b5f:Option Fd -> Fd × Bool
 | some v=>(v,true)
 | none=>(⟨0,0⟩,false)
def bmr (n:Int) (l m:List Fd) (p:AS):Fd × Bool:=if ck4 n l m p = 0 then b5f (b3f n l m p) else (⟨0,0⟩,false)
def bp4 (V:AS -> Option Fd):Prop:=∀ p v,V p = some v -> sub (v.lhs ||| v.rhs) p /\ v.lhs ||| v.rhs ≠ p /\ p &&& ~~~v.rhs ≠ p
section
variable {V:AS -> Option Fd}
def vF (V:AS -> Option Fd) (s:AS):Fd:=(b5f (V s)).1
def vBo (V:AS -> Option Fd) (s:AS):Bool:=(b5f (V s)).2
def bia (V:AS -> Option Fd) (s:AS):AS:=(vF V s).lhs ||| (vF V s).rhs
def bi9 (V:AS -> Option Fd) (s:AS):AS:=s &&& ~~~(vF V s).rhs
def anh (V:AS -> Option Fd):Nat -> List AS -> List AS -> List AS
 | 0,_,out=>out
 | n + 1,todo,out =>
  if todo.length = 0 then out
  else if vBo V (todo.getD (todo.length - 1) default) = true then anh V n (todo.take (todo.length - 1) ++ [bia V (todo.getD (todo.length - 1) default),bi9 V (todo.getD (todo.length - 1) default)]) out
  else anh V n (todo.take (todo.length - 1)) (out ++ [todo.getD (todo.length - 1) default])
def br8 (V:AS -> Option Fd) (p0:AS) (x:Nat × List AS × List AS):Prop:=anh V x.1 x.2.1 x.2.2 = anh V 6562 [p0] [] /\ gr x.2.1 < x.1 /\ x.2.2.length + x.1 <= 6562
def lvG (V:AS -> Option Fd):Nat -> AS -> List AS
 | 0,s=>[s]
 | n + 1,s=>if vBo V s = true then lvG V n (bia V s) ++ lvG V n (bi9 V s) else [s]
end
def boi (n:Int) (l m:List Fd):List AS:=anh (b3f n l m) 6562 [aa n] []
def bpt (n:Int) (l m:List Fd):List AS:=if ck4 n l m 0 = 0 then j9 (boi n l m) else []
end
section
open Go.Proofs
def is4 (n:Int) (l m:List Fd):Bool:=if ck4 n l m 0 = 0 then !(bmr n l m (aa n)).2 else false
end
section
structure Mx where
 d:Dps
 m:List Dp
deriving Inhabited
def Mx.mv (x:Mx):List Fd:=x.m.map (Dp.fd x.d.num)
def Mx.c (x:Mx):Nat -> PV
 | 0=>x.d.c 0
 | 1=>x.d.c 1
 | 2=>dpl x.m
 | _=>.any
abbrev Mx.pc (x:Mx):PC:=.agg [x.c 0,x.c 1,x.c 2]
def Mx.ok (x:Mx):Bool:=decide (x.d.l.length <= 6) && decide (x.m.length <= 4)
def bpw (n:Int) (l m:List Fd) (ps:List AS):Int:=if ck4 n l m 0 = 0 then lsC n ps l m else ck4 n l m 0
def bqz (n:Int) (l m:List Fd) (ps:List AS):Bool:=if ck4 n l m 0 = 0 then (if lsC n ps l m = 0 then lsB n ps l m && ps.all (fun p=>!vBo (b3f n l m) p) else false) else false
end
section
open Go.Proofs Go.Proofs.YtnlcekpflogjkaaGreatDoor
open Go.RowKit Go.ChangeShapes Go.WideShapes Go.ChangeAt
def s2C (x:AS × AS):Nat -> PV
 | 0=>asC x.1
 | 1=>asC x.2
 | _=>.any
end
section
open Go.Proofs Go.Proofs.YtnlcekpflogjkaaGreatDoor
open Go.RowKit Go.ChangeShapes Go.WideShapes Go.ChangeAt
def bmw:Rd bw0 131 2 Dp.c:=by
 intro H enc w sp held fuel cs x h;obtain ⟨hl,n,hf⟩:=ayu Tryz.underlying131 h;obtain ⟨y0,e0⟩:=hf 0 _ rfl;obtain ⟨y1,e1⟩:=hf 1 _ rfl;obtain ⟨a0,h0⟩:=ank rd5 e0;obtain ⟨a1,h1⟩:=ank rd5 e1;refine ⟨hl.trans bvr,(⟨a0,a1⟩:Dp),fun j hj=>?_⟩
 match j,hj with
 | 0,_=>exact h0 0 bv9
 | 1,_=>exact h1 0 bv9
def bkg:RdB bw0 25 1 (awo 2 Dp.c) fun b l=>l.length <= b :=
 (aja (B:=fun _ _=>True) (fun _ _ _ _ _=>trivial) Tryz.underlying25 bvr bv9 bmw.toB).co id (fun b a h=>h.1) fun a j hj=>CoP.refl _
def bly:RdB bw0 27 2 Dps.c fun b d=>d.l.length <= b:=by
 intro H enc w sp held fuel cs x h;obtain ⟨hl,n,hf⟩:=aer Tryz.underlying27 h;obtain ⟨y0,e0⟩:=hf 0 _ rfl;obtain ⟨y1,e1⟩:=hf 1 _ rfl;obtain ⟨a0,_,h0⟩:=xg (fun _ _ _ _ _=>trivial) rd5.toB e0;obtain ⟨a1,hb,h1⟩:=xg (B:=fun b (l:List Dp)=>l.length <= b) (fun _ _ _ h k=>bs4 k h) bkg e1;refine ⟨hl.trans bvr,(⟨a0,a1⟩:Dps),hb,fun j hj=>?_⟩
 match j,hj with
 | 0,_=>exact h0 0 bv9
 | 1,_=>exact h1 0 bv9
def b41:Rd bw0 5 1 bj3:=(b8a Tryz.underlying5).co id fun a j hj=>by obtain rfl:j = 0:=bv9;exact CoP.refl _
def bng:Rd bw0 82 1 b2q:=(b5r Tryz.underlying82 bvr bv9 b41).co id fun a j hj=>by obtain rfl:j = 0:=bv9;exact CoP.refl _
def bkm:RdB bw0 22 1 (awo 1 b2q) fun b l=>l.length <= b :=
 (aja (B:=fun _ _=>True) (fun _ _ _ _ _=>trivial) Tryz.underlying22 bvr bv9 bng.toB).co id (fun b a h=>h.1) fun a j hj=>CoP.refl _
def bms:RdB bw0 24 3 oe.c fun b x=>x.rows.length <= b:=by
 intro H enc w sp held fuel cs x h;obtain ⟨hl,n,hf⟩:=aer Tryz.underlying24 h;obtain ⟨y0,e0⟩:=hf 0 _ rfl;obtain ⟨y1,e1⟩:=hf 1 _ rfl;obtain ⟨y2,e2⟩:=hf 2 _ rfl;obtain ⟨a0,_,h0⟩:=xg (fun _ _ _ _ _=>trivial) b41.toB e0;obtain ⟨a1,_,h1⟩:=xg (fun _ _ _ _ _=>trivial) b41.toB e1;obtain ⟨a2,b2,h2⟩:=xg (B:=fun b (l:List (List UInt8))=>l.length <= b) (fun _ _ _ h k=>bs4 k h) bkm e2;refine ⟨hl.trans bvr,(⟨a0,a1,a2⟩:oe),b2,fun j hj=>?_⟩
 match j,hj with
 | 0,_=>exact h0 0 bv9
 | 1,_=>exact h1 0 bv9
 | 2,_=>exact h2 0 bv9
def bf5:bw0.readableRec 24 = true /\ 24 < bw0.types.size:=⟨by kernel_rfl,of_decide_eq_true bvr⟩
def bir:bw0.readableRec 27 = true /\ 27 < bw0.types.size:=⟨by kernel_rfl,of_decide_eq_true bvr⟩
end
section
open Go.Proofs
def bm4 (n:Int) (l:List Dp) (hl:l.length <= 16777216):a6 bw0 29 [pI n,pP (dpl l)] (af [pP (fdl (l.map (Dp.fd n)))]):=by
 refine hpx (nt:=37) Tryz.func29 ?_;refine w_7 ?_;refine qcx (wgx Tryz.func81) (bf9 n) ?_;refine j4 ?_;refine df 6 900 true 2 61 (lf Fd.c []) bvg rfl (CoP.sl rfl (.inr rfl) (fun h=>h) (fun i j hi _=>absurd hi (brg i))) (.inr rfl) rfl ?_;refine br (ka 1 (ka 5 kn)) km (fun i=>⟨[(6,some (.v (.one (.ref 900 ((l.take i).map (Dp.fd n)).length)))),(7,some (vI i))],[(900,some (.arr true 2 61 ((l.take i).map (Dp.fd n)).length (lf Fd.c ((l.take i).map (Dp.fd n)))))]⟩) l.length kk ?_;rintro i hi;have hlen:((l.take i).map (Dp.fd n)).length <= i:=by rw [bsc,brl];omega
 refine w_8 ?_;refine hcd (fun h0=>?_) (fun h0=>?_)
 · refine apv ?_;refine m9 0 ?_;refine r9 1 true ?_;refine w_8 ?_;exact lpx (i + 1) ⟨⟨⟨_,rfl,(bz (a1p bv9))⟩,tt⟩,⟨⟨_,rfl,(n8 (a1p bv9) (CoP.of_eq (congrArg (fun z=>PV.raw (.int .u32 z)) (b12 _ _))) (CoP.of_eq (congrArg (fun z=>PV.raw (.int .u32 z)) (b12 _ _))))⟩,trivial⟩⟩
 obtain rfl:i = l.length:=by omega
 refine w_6 ?_;refine bn 4 rfl rfl rfl ?_;exact hx8 rfl rfl rfl (⟨CoC.one (CoP.of_eq (by rw [bro];rfl)),trivial⟩)
def cOf (d:Dps) (hl:d.l.length <= 16777216):a6 bw0 6 [d.pc] (af [pI d.num,pP (fdl d.fds),pB (decide (d.l.length <= 6))]):=by
 refine hpx (nt:=19) Tryz.func6 ?_;refine sx7 ?_;refine m9 0 ?_;refine aau ?_;refine qcx (wgx Tryz.func29) (bm4 d.num d.l hl) ?_;refine v_9 ?_;exact ⟨cci (show (d.n.toNat:Int) % 7 = d.num by unfold Dps.num;omega),CoC.refl _,ccb (decide_eq_decide.2 bv9),trivial⟩
end
end Go.Hx

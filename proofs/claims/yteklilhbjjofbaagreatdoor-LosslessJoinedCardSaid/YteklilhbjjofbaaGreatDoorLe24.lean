/- A part of the proof: Cc2 Cc3 Ls1 Cs24 Cs26 Cs27 Cs28 Cs30 Cs31 Cs32 Cs33 Cs34 Cs35 Cs36 Cz1m Cs37 Cs40 Ls2 Ls3 Ls5 W0 W1 Ls6 W2a Bz1 Bz2 Bz3 Y1 Bz4 Y3 Bz5 Rb25 Ch22. -/
import Derived.Test.YteklilhbjjofbaaGreatDoorLe23
set_option linter.all false
set_option maxRecDepth 100000
set_option maxHeartbeats 1000000
namespace Go.Hx
section
def axb:List (List Int) -> List Rw
 | []=>[[]]
 | c :: cs=>c.flatMap fun z=>(axb cs).map fun r=>z :: r
section
variable {N:Nat} {p m:List Fd} {l0 l:List Rw}
def aed {a b:Rw} {s:AS} {i:Nat} (h:i < b.length):(dw a b s).getD i default = if bt s (i:Int) = true then a.getD i default else b.getD i default:=by
 unfold dw;rw [b2i,b32,b3j h];rfl
def amb (C:Nat -> List Int) (hd:∀ i j z,z ∈ C i -> z ∈ C j -> i = j):Mdl N p m (fun x y=>x = y \/ ∃ i,x ∈ C i /\ y ∈ C i) (fun r=>r.length = N /\ ∀ i,i < N -> r.getD i default ∈ C i) where
 refl _:=.inl rfl
 symm h:=by
  rcases h with h | ⟨i,h,k⟩
  · exact .inl h.symm
  exact .inr ⟨i,k,h⟩
 trans h h2:=by
  rcases h with h | ⟨i,h,k⟩
  · rw [h];exact h2
  rcases h2 with h2 | ⟨j,h2,k2⟩
  · rw [<- h2];exact .inr ⟨i,h,k⟩
  have:=hd i j _ k h2;subst this;exact .inr ⟨i,h,k2⟩
 len h:=h.1
 cong h e h2:=⟨e.trans h.1,fun i hi=>by
  have h3:=h.2 i hi
  rcases h2 i (by rw [h.1];exact hi) with h4 | ⟨j,h4,h5⟩
  · rw [<- h4];exact h3
  have:=hd i j _ h3 h4;subst this
  exact h5⟩
 fd _ a b ha hb _:=fun i hi _=>.inr ⟨i,ha.2 i (by rw [<- ha.1];exact hi),hb.2 i (by rw [<- ha.1];exact hi)⟩
 mv _ a b ha hb _:=⟨(jv _ _ _).trans hb.1,fun i hi=>by
  rw [aed (by rw [hb.1];exact hi)];split
  · exact ha.2 i hi
  exact hb.2 i hi⟩
def agi:Mdl N p m (fun x y=>0 <= x <-> 0 <= y) (fun r=>r.length = N /\ ∀ i,i < r.length -> 0 <= r.getD i default) where
 refl _:=Iff.rfl
 symm h:=h.symm
 trans h h2:=h.trans h2
 len h:=h.1
 cong h e h2:=⟨e.trans h.1,fun i hi=>(h2 i b5h).1 (h.2 i b5h)⟩
 fd _ a b ha hb _:=fun i hi _=>⟨fun _=>hb.2 i (by rw [hb.1,<- ha.1];exact hi),fun _=>ha.2 i hi⟩
 mv _ a b ha hb _:=⟨(jv _ _ _).trans hb.1,fun i hi=>by
  rw [jv] at hi;rw [aed hi];split
  · exact ha.2 i (by rw [ha.1,<- hb.1];exact hi)
  exact hb.2 i hi⟩
def agb (N:Nat) (p m:List Fd) (l0:List Rw):Prop:=∀ l,lp l -> (∀ r,r ∈ l -> LR N p m l0 r) -> l.length <= 256
end
section
variable {p m:List Fd} {l0 l:List Rw} {n:Int} {σ:Int -> Int}
def aum (h0:tok n l0 = true) (hS:agb n.toNat p m l0) (ho:lp l) (h:∀ r,r ∈ l -> LR n.toNat p m l0 r):tok n l = true:=by
 obtain ⟨h1,h2,_⟩:=iw h0;refine aiw h1 h2 (hS l ho h) (fun r hr=>?_) ho;have h3:=h r hr _ _ agi fun r0 hr0=>⟨(lh h0 r0 hr0).1,fun i hi=>(lh h0 r0 hr0).2 _ (d6 hi)⟩;refine ⟨h3.1,fun z hz=>?_⟩;obtain ⟨i,hi,rfl⟩:=qo hz;exact h3.2 i hi
def amy {s:St} (h:(c8 n l p m s).2.2 = 0):lp (c8 n l p m s).2.1:=by
 unfold c8 at *;split at h
 · rename_i e
   rw [if_pos e];unfold mvE o5 at *;split at h
   · rename_i e2
     rw [if_pos e2];split at h
     · exact absurd h b5n
     rename_i e3;rw [if_neg e3];exact o8 _
   exact absurd h b5n
 rename_i e;rw [if_neg e];unfold fdE at *;split at h
 · rename_i e2
   rw [if_pos e2];exact o8 _
 exact absurd h b5n
theorem Ch.step (h0:tok n l0 = true) (hS:agb n.toNat p m l0) (hp:p.all (inU n) = true) (hT:tok n l = true) (h:Ch n.toNat p m l0 l σ) {s:St} (hs:amx l p m s) (he:(c8 n l p m s).2.2 = 0) :
 ∃ l' σ',c8 n l p m s = (n,l',0) /\ tok n l' = true /\ Ch n.toNat p m l0 l' σ':=by
 obtain ⟨h1,σ',h2⟩:=Ch.app (fun r hr=>(lh h0 r hr).1) hT hp h hs he;have h3:=aum h0 hS (amy he) h2.rows;refine ⟨_,σ', ?_,h3,h2⟩
 conv=>lhs;rw [<- Prod.eta (c8 n l p m s),<- Prod.eta (c8 n l p m s).2,h1,he]
def aez {s:St} (h:vg l p m s):amx l p m s:=by
 obtain ⟨h1,h2,h3⟩:=h;refine ⟨h1,h2,fun e=>?_,fun e=>?_⟩
 · rcases h3 with ⟨_,h,_⟩ | ⟨h,_⟩
   · exact h
   rw [e] at h;cases h
 rcases h3 with ⟨h,_⟩ | ⟨_,h,_⟩
 · rw [e] at h;cases h
 exact h
theorem Ch.code (h0:tok n l0 = true) (hS:agb n.toNat p m l0) (hp:p.all (inU n) = true) (hT:tok n l = true) (h:Ch n.toNat p m l0 l σ) {s:St} (hs:vg l p m s):(c8 n l p m s).2.2 = 0:=by
 rcases acy hT hp hs with e | ⟨l',e,_⟩
 · obtain ⟨mu,i,a,b⟩:=s
   obtain ⟨ha,hb,hs | hs⟩:=hs
   · obtain ⟨h1,h2,h3⟩:=hs
     cases h1;have h4:c8 n l p m (false,i,a,b) = fdE n l a b (p.getD i default):=rfl;have hg:=(ahb hT (b3c.1 hp _ (d6 h2)) ha hb h3).1;have hg:fdE n l a b (p.getD i default) = (n,fdL l a b (p.getD i default),0):=hg;rw [h4,hg] at e ⊢
   obtain ⟨h1,h2,h3⟩:=hs;cases h1;have h4:c8 n l p m (true,i,a,b) = mvE n l a b (m.getD i default):=rfl;have h5:ez l (m.getD i default) a b = true:=h3;unfold ez at h5;rw [b2p] at h5;have h6:mvE n l a b (m.getD i default) = o5 n l (dw (l.getD a default) (l.getD b default) ((m.getD i default).lhs ||| (m.getD i default).rhs)):=if_pos h5.1;have hl0:∀ r,r ∈ l0 -> r.length = n.toNat:=fun r hr=>(lh h0 r hr).1
   have h7:=hS (au (l ++ [dw (l.getD a default) (l.getD b default) ((m.getD i default).lhs ||| (m.getD i default).rhs)])) (o8 _) fun r hr=>by
    rcases b2z.1 (ef.1 hr) with h8 | h8
    · exact h.rows r h8
    rw [b2u.1 h8];exact (a10 hl0).mv (d6 h2) (h.rows _ (d6 ha)) (h.rows _ (d6 hb)) (agv hl0 h5.1)
   rw [h4,h6];unfold o5;rw [if_neg b5h]
 rw [e]
def TrZ (n:Int) (p m:List Fd) (lend:List Rw):List Rw -> List St -> Prop
 | l,[]=>l = lend
 | l,s :: r=>tok n l = true /\ vg l p m s /\ ∃ l',c8 n l p m s = (n,l',0) /\ ¬ l' = l /\ TrZ n p m lend l' r
end
def stC (n:Int) (ps:List AS) (c:Nat):List Int:=if c < n.toNat then (List.range ps.length).map fun i=>stV n i (ps.getD i default) c else []
section
variable {n:Int} {ps:List AS} {p m:List Fd}
def aq2 (h0:0 <= n) {i c:Nat} {q:AS} (hc:c < n.toNat):stV n i q c % n = (c:Int):=by
 unfold stV;split
 · exact Int.emod_eq_of_lt b5h b5h
 have e:n + (i:Int) * n + (c:Int) = (c:Int) + n * (1 + (i:Int)):=by rw [Int.mul_add,Int.mul_one,Int.mul_comm (i:Int) n];omega
 rw [e,Int.add_mul_emod_self_left];exact Int.emod_eq_of_lt b5h b5h
def a5s (h0:0 <= n) {c:Nat} {z:Int} (h:z ∈ stC n ps c):c < n.toNat /\ z % n = (c:Int):=by
 unfold stC at h;split at h
 · rename_i hc
   obtain ⟨i,_,rfl⟩:=b37.1 h;exact ⟨hc,aq2 h0 hc⟩
 simp at h
def apf (h0:0 <= n):∀ i j z,z ∈ stC n ps i -> z ∈ stC n ps j -> i = j:=fun i j z h k=>by
 have h1:=(a5s h0 h).2;have h2:=(a5s h0 k).2;omega
def a5a {r:Rw} (hr:r ∈ av n ps):r.length = n.toNat /\ ∀ i,i < n.toNat -> r.getD i default ∈ stC n ps i:=by
 unfold av at hr;obtain ⟨k,hk,rfl⟩:=b37.1 hr;refine ⟨aeg _ _ _,fun i hi=>?_⟩;rw [aso hi];unfold stC;rw [if_pos hi];exact b37.2 ⟨k,hk,rfl⟩
end
end
section
section
variable {n:Int} {ps:List AS} {p m:List Fd} {l l0:List Rw} {σ:Int -> Int}
def avq {N:Nat} {l l':List Rw} (h:∀ r,r ∈ l <-> r ∈ l') {r:Rw}:LR N p m l r <-> LR N p m l' r :=
 ⟨fun k E R hm hl=>k E R hm fun r hr=>hl r ((h r).1 hr),fun k E R hm hl=>k E R hm fun r hr=>hl r ((h r).2 hr)⟩
def ai4 (h0:0 <= n) {c:Nat} {z:Int} (h:z ∈ stC n ps c):z = (c:Int) \/ n <= z:=by
 unfold stC at h;split at h
 · obtain ⟨i,_,rfl⟩:=b37.1 h
   unfold stV;split
   · exact .inl rfl
   right;have:=Int.mul_nonneg (show (0:Int) <= (i:Int) by omega) h0;omega
 simp at h
theorem Ch.first (h0:0 <= n) (h:Ch n.toNat p m (au (av n ps)) l σ):(cu n).map σ = cu n:=by
 refine a6e fun z hz=>?_;unfold cu at hz;obtain ⟨c,hc,rfl⟩:=b37.1 hz;have hc:=b36.1 hc;have h1:=h.sym (c:Int) _ _ (amb (stC n ps) (apf h0)) fun r hr=>a5a (ef.1 hr)
 rcases h1 with h1 | ⟨i,h1,h2⟩
 · exact h1.symm
 have h3:=(a5s h0 h1).2;have h4:=Int.emod_eq_of_lt (a:=(c:Int)) (b:=n) b5h b5h;have h5:i = c:=by omega
 subst h5;have h6:=h.le (i:Int)
 rcases ai4 h0 h2 with h7 | h7
 · exact h7
 omega
def swI (n z:Int):Int:=if n <= z /\ z < 2 * n then z + n else if 2 * n <= z /\ z < 3 * n then z - n else z
abbrev b2e (n:Int) (x:Fd):Fd:=⟨x.lhs,b5 n &&& ~~~(x.lhs ||| x.rhs)⟩
end
end
section
section
variable {n:Int} {p m:List Fd} {l0 l:List Rw} {σ:Int -> Int}
def an8 (hT:tok n l = true) (hp:p.all (inU n) = true) (hm:m = []) {s:St} (hs:vg l p m s):(c8 n l p m s).2.2 = 0:=by
 obtain ⟨mu,i,a,b⟩:=s;obtain ⟨ha,hb,hs | hs⟩:=hs
 · obtain ⟨h1,h2,h3⟩:=hs
   cases h1;have h4:c8 n l p m (false,i,a,b) = fdE n l a b (p.getD i default):=rfl;have hg:fdE n l a b (p.getD i default) = (n,fdL l a b (p.getD i default),0):=(ahb hT (b3c.1 hp _ (d6 h2)) ha hb h3).1;rw [h4,hg]
 obtain ⟨_,h2,_⟩:=hs;subst hm;exact absurd h2 (b2o _)
def ai5 (hl0:∀ r,r ∈ l0 -> r.length = n.toNat) (hp:p.all (inU n) = true) (Z:List Int):∀ (F:Nat) (l:List Rw) (acc:List St) (σ:Int -> Int),tok n l = true -> Ch n.toNat p m l0 l σ -> Cov Z l -> muC Z l < F ->
 (f5 F n l p m acc = ([],(0,[]),3) /\ ¬ m = []) \/ ∃ sts lend σ',f5 F n l p m acc = (acc ++ sts,(n,lend),0) /\ Ch n.toNat p m l0 lend σ' /\ tok n lend = true /\ dj lend p m = none /\ TrZ n p m lend l sts:=by
 intro F
 induction F with
 | zero=>intro _ _ _ _ _ _ h;exact absurd h (b2o _)
 | succ F ih =>
  intro l acc σ hT hC hZ hF
  cases hn:dj l p m with
  | none=>exact .inr ⟨[],l,σ,by rw [a3q b5h hn,b3i],hC,hT,hn,rfl⟩
  | some s =>
   have hs:=a78 hn
   rcases acy hT hp hs with e | ⟨l',e,hT',h3⟩
   · left
     refine ⟨a59 b5h hn e b5n,fun hm=>?_⟩;have:=an8 hT hp hm hs;rw [e] at this;exact absurd this b5n
   obtain ⟨h4,h5⟩:=h3 Z hZ;obtain ⟨_,σ',hC'⟩:=Ch.app hl0 hT hp hC (aez hs) (by rw [e]);rw [e] at hC'
   rcases ih l' (acc ++ [s]) σ' hT' hC' h4 b5h with ⟨q,q0⟩ | ⟨sts,lend,σ2,q1,q2,q3,q4,q5⟩
   · left
     exact ⟨by rw [vr b5h hn e,Nat.add_sub_cancel,q],q0⟩
   right;refine ⟨s :: sts,lend,σ2, ?_,q2,q3,q4,hT,hs,l',e,fun e=>?_,q5⟩
   · rw [vr b5h hn e,Nat.add_sub_cancel,q1,b3o]
     rfl
   subst e;omega
def ajc (hT:tok n l = true) (hb:cj n p m = 0):(ik FU n l p m = ([],(0,[]),3) /\ ¬ m = []) \/ ∃ sts lend σ,ik FU n l p m = (sts,(n,lend),0) /\ Ch n.toNat p m l lend σ /\ tok n lend = true /\ dj lend p m = none /\ TrZ n p m lend l sts:=by
 have hck:ckE n l p m = 0:=(if_pos hT).trans hb;rw [x7 hck]
 rcases ai5 (fun r hr=>(lh hT r hr).1) (a5m hb).2.2.2.1 l.flatten FU l [] id hT Ch.start (aar l) (akj hT) with h | ⟨sts,lend,σ',q1,q⟩
 · exact .inl h
 exact .inr ⟨sts,lend,σ',by rw [q1,b42],q⟩
def trL (n:Int) (p m:List Fd):List Rw -> List St -> List (List Rw)
 | l,[]=>[l]
 | l,s :: r=>l :: trL n p m (c8 n l p m s).2.1 r
def a68:∀ {sts:List St} {l:List Rw},(trL n p m l sts).length = sts.length + 1
 | [],_=>rfl
 | s :: r,l=>by unfold trL;rw [b3r,a68,b3r]
def a90:∀ {sts:List St} {l lend:List Rw},TrZ n p m lend l sts -> lend ∈ trL n p m l sts
 | [],l,lend,h=>by
  have h:l = lend:=h;subst h;simp [trL]
 | s :: r,l,lend,h=>by
  obtain ⟨_,_,l',e,_,h⟩:=h;unfold trL;rw [e];exact b38 _ (a90 h)
def akh (hl0:∀ r,r ∈ l0 -> r.length = n.toNat) (hp:p.all (inU n) = true):∀ {sts:List St} {l lend:List Rw} {σ:Int -> Int},TrZ n p m lend l sts -> tok n lend = true -> Ch n.toNat p m l0 l σ -> ∀ t,t ∈ trL n p m l sts -> ∃ σ,Ch n.toNat p m l0 t σ
 | [],l,lend,σ,h,_,hC,t,ht=>by
  rw [b2u.1 (show t ∈ [l] from ht)];exact ⟨σ,hC⟩
 | s :: r,l,lend,σ,h,hTe,hC,t,ht=>by
  obtain ⟨hT,hs,l',e,_,h⟩:=h;unfold trL at ht;rw [e] at ht
  rcases b2s.1 ht with rfl | ht
  · exact ⟨σ,hC⟩
  obtain ⟨_,σ',hC'⟩:=Ch.app hl0 hT hp hC (aez hs) (by rw [e]);rw [e] at hC';exact akh hl0 hp h hTe hC' t ht
end
section
variable {n:Int} {ps:List AS} {p m:List Fd}
def a48 (h0:0 <= n) (h16:n <= 16) (hk:ps.length <= 64):tok n (au (av n ps)) = true:=by
 refine yt h0 h16 ?_ fun r hr=>?_
 · have:=a84 (av n ps)
   rw [qx] at this;omega
 obtain ⟨h1,h2⟩:=a5a hr;refine ⟨h1,fun z hz=>?_⟩;obtain ⟨i,hi,rfl⟩:=qo hz
 rcases ai4 h0 (h2 i b5h) with h3 | h3 <;> omega
def ahi (hk:ps.length <= 64) (hb:cj n p m = 0) :
 (ik FU n (au (av n ps)) p m = ([],(0,[]),3) /\ ¬ m = []) \/ ∃ sts lend,ik FU n (au (av n ps)) p m = (sts,(n,lend),0) /\ (cu n ∈ lend <-> LR n.toNat p m (av n ps) (cu n)) /\
  TrZ n p m lend (au (av n ps)) sts /\ tok n lend = true /\ ((∃ t,t ∈ trL n p m (au (av n ps)) sts /\ cu n ∈ t) <-> cu n ∈ lend):=by
 obtain ⟨h0,h16,_,hp,_⟩:=a5m hb;have hT:=a48 h0 h16 hk;have hl0:∀ r,r ∈ au (av n ps) -> r.length = n.toNat:=fun r hr=>(lh hT r hr).1
 rcases ajc hT hb with h | ⟨sts,lend,σ,h1,h2,h3,h4,h5⟩
 · exact .inl h
 right
 have hf:cu n ∈ lend <-> LR n.toNat p m (au (av n ps)) (cu n):=by
  rw [h2.mem h3 hl0 h4];exact ⟨fun h=>h.1,fun h=>⟨h,h2.first h0⟩⟩
 refine ⟨sts,lend,h1,by rw [hf,avq (l':=av n ps) fun r=>ef],h5,h3, ?_⟩;constructor
 · rintro ⟨t,ht,hft⟩
   obtain ⟨σ',hC⟩:=akh hl0 hp h5 h3 Ch.start t ht;exact hf.2 (hC.rows _ hft)
 intro h;exact ⟨lend,a90 h5,h⟩
end
end
section
section
variable {n:Int} {l:List Fd}
end
structure Dps where
 n:BitVec 8
 l:List Dp
deriving Inhabited
def Dps.num (d:Dps):Int:=((d.n.toNat % 7:Nat):Int)
def Dps.fds (d:Dps):List Fd:=d.l.map (Dp.fd d.num)
def Dps.c (d:Dps):Nat -> PV
 | 0=>.raw (.int .u8 (d.n.toNat:Int))
 | 1=>dpl d.l
 | _=>.any
abbrev Dps.pc (d:Dps):PC:=.agg [d.c 0,d.c 1]
end
section
def noA (s:AS) (a:Nat):AS:=s &&& ~~~((1:AS) <<< a)
def atn (n:Int) (l:List Fd) (s:AS) (a:Nat):AS:=if a67 n l (noA s a) = true then noA s a else s
def awj (n:Int) (l:List Fd) (s:AS) (k:Nat):AS:=(List.range k).foldl (fun s j=>atn n l s (n.toNat - 1 - j)) s
def rkE (n:Int) (l:List Fd) (s:AS):Int:=if dm n l = 0 then (if a67 n l s = true then 0 else 1) else dm n l
def rkS (n:Int) (l:List Fd) (s:AS):AS:=if rkE n l s = 0 then awj n l s n.toNat else 0
def axe (n:Int) (l:List Fd) (s:AS):Bool:=a67 n l s && (List.range n.toNat).all fun a=>!(s.getLsbD a && a67 n l (noA s a))
def axw (n:Int) (l:List Fd) (i:Nat):List AS:=((List.range i).map (BitVec.ofNat 32)).filter (axe n l)
def aox (n:Int) (l:List Fd):List AS:=if dm n l = 0 then ord (axw n l (2 ^ n.toNat)) else []
end
section
def bC:Bool -> Nat -> PV:=fun b _=>.raw (.bool b)
def an4 (n:Int) (l:List Fd) (k:Nat):Bool:=decide (clo l (BitVec.ofNat 32 k) = b5 n)
def ayd (n:Int) (l:List Fd) (i:Nat):List Bool:=(List.range (2 ^ n.toNat)).map fun k=>decide (k < i) && an4 n l k
def b2f (n:Int) (l:List Fd):List Bool:=ayd n l (2 ^ n.toNat)
end
section
section
variable {n:Int} {l:List Fd}
def okA (n:Int) (l:List Fd) (i a:Nat):Bool:=an4 n l i && (List.range a).all fun b=>!(i.testBit b && an4 n l (i ^^^ 2 ^ b))
section
variable {i a:Nat} (hv:dm n l = 0) (hi:i < 2 ^ n.toNat) (ha:(a:Int) < n) (hx:i ^^^ 2 ^ a < 2 ^ n.toNat)
include hv hi ha hx
end
end
end
section
def ag4 (s:AS):Nat -> AS -> List AS
 | 0,_=>[]
 | n + 1,x=>if x = 0 then [] else x :: ag4 s n ((x - 1) &&& s)
def a8w (s:AS):List AS:=0 :: ag4 s (s.toNat + 1) s
def sub_zero (s:AS):sub 0 s:=dt.2 fun i hi h=>by simp at h
def TsI (s:AS) (x:Nat × List AS × AS):Prop:=x.2.1 ++ ag4 s x.1 x.2.2 = a8w s /\ x.2.2.toNat < x.1 /\ x.2.1.length + x.1 = s.toNat + 2
def aaz (l:List Fd) (p s:AS):Bool:=decide (sub p (clo l s))
def azk (l:List Fd) (p x:AS):Bool:=(List.range 32).all fun a=>!(x.getLsbD a && aaz l p (noA x a))
def b1m (l:List Fd) (p x r:AS):Prop:=sub r x /\ ∀ a,a < 32 -> x.getLsbD a = true -> r.getLsbD a = true \/ aaz l p (noA x a) = false
def ao1 (l:List Fd) (p x:AS):Bool:=aaz l p x && azk l p x
def ahs (l:List Fd) (p:AS):AS:=orL ((a8w p).filter (ao1 l p))
def a0j {k:Nat}:∀ {ps:List AS} {s:AS},(ps.foldl (· ||| ·) s).getLsbD k = (s.getLsbD k || ps.any fun x=>x.getLsbD k)
 | [],s=>by simp
 | x :: ps,s=>by
  rw [List.foldl_cons,a0j,b52,List.any_cons,Bool.or_assoc]
def b04 (l:List Fd) (p:AS) (i:Nat):AS:=orL (((a8w p).take i).filter (ao1 l p))
end
section
def b1j (l:List Fd) (p x:AS) (a:Nat):Bool:=(List.range a).all fun b=>!(x.getLsbD b && aaz l p (noA x b))
def ayf (i:Nat):List AS:=(List.range i).map (BitVec.ofNat 32)
def prQ (l:List Fd) (p x:AS):Bool:=decide (sub x p) && ao1 l p x
def b01 (l:List Fd) (p:AS) (i:Nat):AS:=orL ((ayf i).filter (prQ l p))
section
variable {l:List Fd} {p:AS} {i:Nat}
end
def ayt (l:List Fd) (p x:AS):Bool:=!aaz l p x && decide (((clo l x &&& p) &&& ~~~x) &&& ~~~ahs l p ≠ 0)
def at3 (l:List Fd) (p:AS):Bool:=!(a8w p).any (ayt l p)
def ayg (n:Int) (l:List Fd) (p:AS):Int:=if dm n l = 0 then (if sub p (b5 n) then 0 else 1) else dm n l
def b1f (n:Int) (l:List Fd) (p:AS):Bool:=decide (ayg n l p = 0) && at3 l p
end
section
section
variable {n:Int} {l:List Fd}
def aty (n:Int) (l:List Fd) (f:Fd):Bool:=decide (clo l f.lhs ≠ b5 n) && decide (f.rhs &&& ~~~ahs l (b5 n) ≠ 0)
def b0e (n:Int) (l:List Fd) (i:Nat):List Fd:=((ah9 n l).take i).filter (aty n l)
def b0q (n:Int) (l:List Fd):List Fd:=(ah9 n l).filter (aty n l)
end
end
section
def az9 (l:List Fd) (pr k:AS):Bool:=(List.range 32).all fun a=>!k.getLsbD a || decide (sub (clo l (noA k a)) pr)
def aya (n:Int) (l:List Fd):Bool:=(aox n l).all (az9 l (orL (aox n l)))
def b1g (n:Int) (l:List Fd):Bool:=decide (dm n l = 0) && aya n l
section
variable {l:List Fd} {pr k:AS}
def b12 (l:List Fd) (pr k r:AS):Prop:=sub r k /\ ∀ a,a < 32 -> k.getLsbD a = true -> r.getLsbD a = true \/ sub (clo l (noA k a)) pr
def b2c (l:List Fd) (pr k:AS) (s:Nat):Prop:=∀ j,j < s -> sub (BitVec.ofNat 32 j) k -> sub (clo l (BitVec.ofNat 32 j)) pr
end
section
variable {n:Int} {l:List Fd}
end
end
section
def mgR (l:List Fd) (s:AS):AS:=(l.filter fun f=>decide (f.lhs = s)).foldl (fun a f=>a ||| f.rhs) 0
def mgF (l:List Fd) (s:AS):Fd:=⟨s,mgR l s⟩
def azm (l:List Fd):List Fd:=(ord (l.map Fd.lhs)).map (mgF l)
end
section
open Go.Proofs
def b0m (t:AS) (l:List Fd):Prop:=∀ x ∈ l,sub x.rhs t
def afq (n:Int) (l:List Fd):List Fd:=azm (ah9 n l)
def pt (f:Fd):AS:=f.lhs ||| f.rhs
section
variable {n:Int} {l:List Fd}
def ap2 (n:Int) (l:List Fd) (i:Nat):Bool:=((afq n l).take i).any fun f=>a67 n l (pt f)
def agw (n:Int) (l:List Fd):List AS:=(afq n l).map pt
def azs (n:Int) (l:List Fd):List AS:=abr (if ap2 n l (afq n l).length = true then agw n l else agw n l ++ [rkS n l (b5 n)])
def b1w (n:Int) (l:List Fd):List AS:=if dm n l = 0 then azs n l else []
def b1t (n:Int) (l:List Fd):List AS:=if ap2 n l (afq n l).length = true then agw n l else agw n l ++ [rkS n l (b5 n)]
end
end
section
def Eqv (l k:List Fd):Prop:=∀ s,pf l s <-> pf k s
theorem Eqv.refl (l:List Fd):Eqv l l:=fun s=>Iff.rfl
theorem Eqv.trans {a b c:List Fd} (h:Eqv a b) (k:Eqv b c):Eqv a c:=fun s=>(h s).trans (k s)
theorem Eqv.clo {l k:List Fd} (h:Eqv l k) (s:AS):clo l s = clo k s :=
 oe (a7g ((h _).2 yg) aj2) (a7g ((h _).1 yg) aj2)
end
section
def b10 (l:List Fd) (ps:List AS) (t:AS):Prop:=∀ p ∈ ps,sub (clo l (t &&& p) &&& p) t
def awh (l:List Fd) (s p:AS):AS:=s ||| (clo l (s &&& p) &&& p)
def b07 (l:List Fd) (ps:List AS) (s:AS):AS:=ps.foldl (awh l) s
def PrI (l:List Fd) (ps:List AS) (z s:AS):Prop:=sub z s /\ sub s (anc l ps z)
def b1a (n:Int) (l:List Fd) (i:Nat):List AS:=((a8q (b5 n)).take i).filter fun s=>!qw l s
end
section
def b02 (l:List Fd):Prop:=∀ f ∈ l,∀ i,i < 32 -> f.rhs.getLsbD i = true -> f.lhs.getLsbD i = false
section
variable {n:Int} {l:List Fd}
end
end
section
open Go.Proofs
def apn {ps:List AS} {k:AS} (h:k ∈ ps):sub k (orL ps):=dt.2 fun i hi hb=>by
 unfold orL;rw [a0j,b3s];exact .inr (b3g.2 ⟨k,h,hb⟩)
section
variable {n:Int} {l:List Fd}
end
end
section
def ane (E:Int -> Int -> Prop) (R:Rw -> Prop) (s:AS):Prop:=∃ r,R r /\ ∀ i:Nat,i < r.length -> bt s (i:Int) = true -> E (r.getD i default) (i:Int)
section
variable {N:Nat} {p m:List Fd} {E:Int -> Int -> Prop} {R:Rw -> Prop}
def ang {s t:AS} (h:sub s t) {i:Nat} (hi:bt s (i:Int) = true):bt t (i:Int) = true:=by
 by_cases hl:i < 32
 · rw [ew hl] at hi ⊢
   exact dt.1 h i hl hi
 rw [a56 b5h] at hi;cases hi
def ane.mono {s t:AS} (h:ane E R t) (hs:sub s t):ane E R s:=by
 obtain ⟨r,h1,h2⟩:=h;exact ⟨r,h1,fun i hi hh=>h2 i hi (ang hs hh)⟩
end
section
variable {n:Int} {p m:List Fd} {ps:List AS}
end
end
section
def lvE (n:Int) (ps:List AS):Int:=if n < 0 \/ 8 < n then 7 else if 64 < ps.length then 3 else if ps.length = 0 \/ ¬ orL ps = b5 n then 1 else 0
section
variable {n:Int} {ps:List AS} {p m:List Fd}
def a8m (h:n < 0 \/ 8 < n):lvE n ps = 7:=if_pos h
def aom (h:¬ (n < 0 \/ 8 < n)) (h2:64 < ps.length):lvE n ps = 3:=by unfold lvE;rw [if_neg h,if_pos h2]
def a8n (h:¬ (n < 0 \/ 8 < n)) (h2:¬ 64 < ps.length) (h3:ps.length = 0 \/ ¬ orL ps = b5 n):lvE n ps = 1:=by unfold lvE;rw [if_neg h,if_neg h2,if_pos h3]
def aou (h:¬ (n < 0 \/ 8 < n)) (h2:¬ 64 < ps.length) (h3:¬ (ps.length = 0 \/ ¬ orL ps = b5 n)):lvE n ps = 0:=by unfold lvE;rw [if_neg h,if_neg h2,if_neg h3]
def j6 (h:lvE n ps = 0):0 <= n /\ n <= 8 /\ ps.length <= 64 /\ 0 < ps.length /\ orL ps = b5 n:=by
 unfold lvE at h;split at h
 · exact absurd h b5n
 split at h
 · exact absurd h b5n
 split at h
 · exact absurd h b5n
 rename_i h1 h2 h3;refine ⟨by omega,by omega,by omega,by omega, ?_⟩;apply Classical.byContradiction;intro e;exact h3 (.inr e)
def lsT (n:Int) (ps:List AS) (p m:List Fd):List St × (Int × List Rw) × Int:=ik FU n (au (av n ps)) p m
def lsC (n:Int) (ps:List AS) (p m:List Fd):Int:=if lvE n ps = 0 then (if cj n p m = 0 then (lsT n ps p m).2.2 else cj n p m) else lvE n ps
def lsB (n:Int) (ps:List AS) (p m:List Fd):Bool:=decide (lsC n ps p m = 0) && (lsT n ps p m).2.1.2.any fun r=>decide (r = cu n)
def axv (h:lvE n ps = 0) (h2:cj n p m = 0):lsC n ps p m = (lsT n ps p m).2.2:=(if_pos h).trans (if_pos h2)
def aam (h:lsC n ps p m = 0):lvE n ps = 0 /\ cj n p m = 0:=by
 unfold lsC at h;split at h
 · rename_i e
   split at h
   · rename_i e2;exact ⟨e,e2⟩
   rename_i e2;exact absurd h e2
 rename_i e;exact absurd h e
def ate (h:lvE n ps = 0) {q:AS} (hq:q ∈ ps):sub q (b5 n):=by
 rw [<- (j6 h).2.2.2.2];exact apn hq
def alv (h:lvE n ps = 0):fc n ps = (n,au (av n ps),0):=by
 obtain ⟨h0,h8,h64,_⟩:=j6 h;exact aak b5h b5h fun j hj=>(ax9 h0 b5h).1 (ate h (d6 hj))
def b22 (n:Int) (p:List Fd) (ps:List AS):Bool:=lsB n ps p [] && !ps.any (qw p)
end
end
section
abbrev tbC (a:Int × List Rw):Nat -> PV:=fun j=>[.raw (.int .i64 a.1),rl a.2].getD j .any
def lcR (n:Int) (ps:List AS) (p m:List Fd):(Int × List Rw) × List St × (Int × List Rw) × Int :=
 if lvE n ps = 0 then (if cj n p m = 0 then ((n,au (av n ps)),(lsT n ps p m).1,(lsT n ps p m).2.1,(lsT n ps p m).2.2) else ((0,[]),[],(0,[]),cj n p m)) else ((0,[]),[],(0,[]),lvE n ps)
section
variable {n:Int} {ps:List AS} {p m:List Fd} {l lend:List Rw}
def ax0 (h:¬ lvE n ps = 0):lcR n ps p m = ((0,[]),[],(0,[]),lvE n ps):=if_neg h
def awn (h:lvE n ps = 0) (h2:¬ cj n p m = 0):lcR n ps p m = ((0,[]),[],(0,[]),cj n p m):=(if_pos h).trans (if_neg h2)
def afo (h:lvE n ps = 0) (h2:cj n p m = 0):lcR n ps p m = ((n,au (av n ps)),(lsT n ps p m).1,(lsT n ps p m).2.1,(lsT n ps p m).2.2):=(if_pos h).trans (if_pos h2)
def gq:(lcR n ps p m).2.2.2 = lsC n ps p m:=by
 unfold lcR lsC;split
 · split <;> rfl
 rfl
def akx (h:(lcR n ps p m).2.2.2 = 0):((lcR n ps p m).2.2.1.2.any fun r=>decide (r = cu n)) = lsB n ps p m:=by
 have hc:=h;rw [gq] at hc;obtain ⟨h1,h2⟩:=aam hc;unfold lsB;rw [decide_eq_true hc,b5a,afo h1 h2]
def al1 (h:¬ (lcR n ps p m).2.2.2 = 0):lsB n ps p m = false:=by
 rw [gq] at h;unfold lsB;rw [decide_eq_false h];rfl
def asw:(bif decide ((lcR n ps p m).2.2.2 = 0) then ((lcR n ps p m).2.2.1.2.any fun r=>decide (r = cu n)) else false) = lsB n ps p m:=by
 by_cases h:(lcR n ps p m).2.2.2 = 0
 · rw [decide_eq_true h,cond_true,akx h]
 rw [decide_eq_false h,cond_false,al1 h]
def azw (h:lcR n ps p m = lcR n ps p m) (h2:(lcR n ps p m).2.2.2 = 0):0 <= n /\ n <= 8:=by
 rw [gq] at h2;obtain ⟨h1,_⟩:=aam h2;exact ⟨(j6 h1).1,(j6 h1).2.1⟩
def aoz:∀ {sts:List St} {l:List Rw} {i:Nat},TrZ n p m lend l sts -> i <= sts.length -> TrZ n p m lend ((trL n p m l sts).getD i default) (sts.drop i)
 | [],l,0,h,_=>h
 | s :: r,l,0,h,_=>h
 | s :: r,l,i + 1,h,hi=>by
  obtain ⟨_,_,l',e,_,h⟩:=h;unfold trL;rw [e];exact aoz (i:=i) h (by simpa using hi)
def afi:∀ {sts:List St} {l:List Rw} {i:Nat},i < sts.length -> (trL n p m l sts).getD (i + 1) default = (c8 n ((trL n p m l sts).getD i default) p m (sts.getD i default)).2.1
 | [],l,i,hi=>by simp at hi
 | s :: r,l,0,_=>by
  unfold trL
  cases r with
  | nil=>rfl
  | cons s2 r2=>rfl
 | s :: r,l,i + 1,hi=>by
  unfold trL;exact afi (sts:=r) (i:=i) (by simpa using hi)
section
variable {sts:List St}
def aq3:(trL n p m l sts).getD 0 default = l:=by cases sts <;> rfl
def un (n:Int) (p m:List Fd) (l:List Rw) (sts:List St):List (Int × List Rw):=(trL n p m l sts).map fun t=>(n,t)
def abi:(un n p m l sts).length = sts.length + 1:=by unfold un;rw [b3v,a68]
def a5x {i:Nat} (hi:i <= sts.length):(un n p m l sts).getD i default = (n,(trL n p m l sts).getD i default):=by
 unfold un;have:i < (trL n p m l sts).length:=by rw [a68];omega
 rw [b2i,b32,b2h this,b2i,b2h this];rfl
def rcR (n:Int) (ps:List AS) (p m:List Fd):List St × List (Int × List Rw) × Int :=
 if lsC n ps p m = 0 then ((lsT n ps p m).1,un n p m (au (av n ps)) (lsT n ps p m).1,0) else ([],[],lsC n ps p m)
def aoj (h:lsC n ps p m = 0):rcR n ps p m = ((lsT n ps p m).1,un n p m (au (av n ps)) (lsT n ps p m).1,0):=if_pos h
def ai1 (h:lvE n ps = 0) (hb:cj n p m = 0) (hc:(lsT n ps p m).2.2 = 0):∃ sts lend,lsT n ps p m = (sts,(n,lend),0) /\ TrZ n p m lend (au (av n ps)) sts /\ tok n lend = true /\ ((∃ t,t ∈ trL n p m (au (av n ps)) sts /\ cu n ∈ t) <-> cu n ∈ lend):=by
 rcases ahi (j6 h).2.2.1 hb with ⟨e,_⟩ | ⟨sts,lend,e,h1,h2,h3,h4⟩
 · unfold lsT at hc
   rw [e] at hc;exact absurd hc b5n
 exact ⟨sts,lend,e,h2,h3,h4⟩
def ahy {p m:List Fd}:∀ (F:Nat) (n:Int) (l:List Rw) (acc:List St),(f5 F n l p m acc).1.length <= acc.length + F:=by
 intro F
 induction F with
 | zero=>intro n l acc;unfold f5;simp
 | succ F ih =>
  intro n l acc;unfold f5;split
  · simp
  rename_i s _;split;rename_i n' l' e _;split
  · have:=ih n' l' (acc ++ [s])
    simp only [b2v,b3q] at this;omega
  simp
def aq4 (h:lvE n ps = 0) (hb:cj n p m = 0):(lsT n ps p m).1.length <= FU:=by
 obtain ⟨h0,h8,h64,_⟩:=j6 h;have hT:=a48 (ps:=ps) h0 b5h h64;have hck:ckE n (au (av n ps)) p m = 0:=(if_pos hT).trans hb;unfold lsT;rw [x7 hck];have:=ahy (p:=p) (m:=m) FU n (au (av n ps)) [];simpa using this
def kr (n:Int) (t:List Rw):Bool:=t.any fun r=>decide (r = cu n)
def prX (n:Int) (ps:List AS) (p m:List Fd):Int:=idx (fun a:Int × List Rw=>kr n a.2) (rcR n ps p m).2.1
def prC (n:Int) (ps:List AS) (p m:List Fd):Int:=if (rcR n ps p m).2.2 = 0 then (if prX n ps p m < 0 then 11 else 0) else (rcR n ps p m).2.2
def prS (n:Int) (ps:List AS) (p m:List Fd):List St:=if (rcR n ps p m).2.2 = 0 then (if prX n ps p m < 0 then [] else (rcR n ps p m).1.take (prX n ps p m).toNat) else []
def aby:(rcR n ps p m).2.2 = lsC n ps p m:=by
 unfold rcR;split
 · rename_i h;exact h.symm
 rfl
end
end
end
section
open Go.Proofs
def au7 {n:Int} {ps:List AS} {p m:List Fd} (h:lvE n ps = 0) (hb:cj n p m = 0) (hc:(lsT n ps p m).2.2 = 0):TrZ n p m (lsT n ps p m).2.1.2 (au (av n ps)) (lsT n ps p m).1:=by
 obtain ⟨sts,lend,e,htr,_⟩:=ai1 h hb hc;rw [e];exact htr
def al0 {n:Nat} {l:List St} {i:Nat} {cl:Bool} (hn:n = (l.take i).length) {f:Nat -> Nat -> PV} (hf:∀ a j,f a j = lf St.c l a j):CoP (.sl n 4 cl f) (stl (l.take i)):=by
 refine CoP.sl hn.symm (.inl rfl) (fun h=>by cases h) fun a j ha hj=>CoP.of_eq ?_;rw [hf];show St.c (l.getD a default) j = St.c ((l.take i).getD a default) j;have:a < i:=by rw [hn,b2y] at ha;omega
 rw [b2i,b2i,b3d,if_pos this]
def aeh (n:Int) (ps:List AS) (h:lvE n ps = 0):aa b65 53 [pI n,pP (asl ps)] (af [pT n (au (av n ps)),pI 0]):=by
 have:=av1 n ps;rw [alv h] at this;exact this
def ar1 (n:Int) (ps:List AS) (p m:List Fd):aa b65 86 [pT n (au (av n ps)),pP (fdl p),pP (fdl m)] (af [pP (stl (lsT n ps p m).1),pT (lsT n ps p m).2.1.1 (lsT n ps p m).2.1.2,pI (lsT n ps p m).2.2]) :=
 avz FU n (au (av n ps)) p m (fun h=>akj h) b5n
def axd {n:Int} {p m:List Fd} {l lend:List Rw} {sts:List St} {i:Nat} (hi:i < sts.length) (h:TrZ n p m lend l (sts.drop i)):tok n l = true /\ vg l p m (sts.getD i default) /\ c8 n l p m (sts.getD i default) = (n,(c8 n l p m (sts.getD i default)).2.1,0):=by
 have e:sts.drop i = sts.getD i default :: sts.drop (i + 1):=by
  rw [b4i hi,b2i,b2h hi];rfl
 rw [e] at h;obtain ⟨h1,h2,l',h3,h4,h5⟩:=h;rw [h3];exact ⟨h1,h2,rfl⟩
end
section
open Go.Proofs
def avi (ps:List AS):aa b65 44 [pP (asl ps)] (af [pA (orL ps)]):=by
 refine hpx (nt:=17) Tryz.func44 ?_;refine dy ?_;refine df 0 rfl fun hn=>?_;refine w_6 ?_;refine c7 (ka 6 (ka 7 kn)) km (fun i=>⟨[(3,some (vA (orL (ps.take i)))),(8,some (vI i))],[]⟩) ps.length ⟨⟨⟨_,rfl,(CoR.refl _)⟩,tt⟩,trivial⟩ ?_;rintro i hi;refine w_5 ?_;refine hcd (fun h0=>?_) (fun h0=>?_)
 · refine acb ?_;exact lpx (i + 1) ⟨⟨⟨_,rfl,(a8y (by rw [bOr,ac8 b5h];rfl))⟩,tt⟩,trivial⟩
 obtain rfl:i = ps.length:=by omega
 refine v_6 ?_;exact ⟨cci (by rw [b3w]),trivial⟩
def ab9:goodFn b65 12:=wgx Tryz.func12
def b5u {p:Prop} (h:p:=by (repeat' apply And.intro) <;> first | trivial | exact b2k rfl | rfl):p:=h
def a61 (n:Int) (ps:List AS):aa b65 12 [pI n,pP (asl ps)] (af [pI (lvE n ps)]):=by
 refine hpx (nt:=28) Tryz.func12 ?_;refine j5 ?_;refine ab rfl rfl (fun r0=>?_) (fun r0=>?_)
 ·
  have h0:=tz1 r0;(iterate 2 refine k9 (gtf r0) ?_);refine w_8 ?_
  exact hx8 rfl rfl rfl (⟨cci (a8m b5h).symm,trivial⟩)
 have h0:=tz2 r0;(iterate 2 refine qy ?_ (hg:=(gff r0)));refine w_3 ?_;refine aj _ rfl (fun r1=>?_) (fun r1=>?_)
 · have h1:=tz1 (ao r0 r1);refine v_4 ?_;exact ⟨cci (a8m b5h).symm,trivial⟩
 have h1:=tz2 (ao r0 r1);have hz0:0 <= n:=by omega
 have hz1:n <= 16:=by omega
 refine w_7 ?_;refine hcd (fun h2=>?_) (fun h2=>?_)
 · refine v_4 ?_;exact ⟨cci (aom b5h b5h).symm,trivial⟩
 refine w_6 ?_;refine ab rfl rfl (fun r3=>?_) (fun r3=>?_)
 ·
  have h3:=tz1 r3;(iterate 6 refine k9 (gtf r3) ?_);refine w_9 ?_
  exact hx8 rfl rfl rfl (⟨cci (a8n b5h b5h (by first | exact .inl b5h | exact .inr (fun e=>absurd (show asI (orL ps) = IntKind.wrap .u32 (1 * 2 ^ (min n.toNat 32)) - 1 by rw [a05 hz0 hz1,e]) b5i))).symm,trivial⟩)
 have h3:=tz2 r3;refine qy ?_ (hg:=(gff r3));refine qcx (wgx Tryz.func44) (avi ps) ?_ (hg:=(gff r3));(iterate 2 refine qy ?_ (hg:=(gff r3)));refine rq rfl rfl rfl rfl (gff r3) ?_ (hp:=⟨am1 hz0 hz1,ain hz0 hz1⟩);refine qy ?_ (hg:=(gff r3));refine w_4 ?_;refine aj _ rfl (fun r4=>?_) (fun r4=>?_)
 · have h4:=tz2 (ec (ao r3 r4));refine v_4 ?_;exact ⟨cci (a8n b5h b5h (by first | exact .inl b5h | exact .inr (fun e=>absurd (show asI (orL ps) = IntKind.wrap .u32 (1 * 2 ^ (min n.toNat 32)) - 1 by rw [a05 hz0 hz1,e]) b5i))).symm,trivial⟩
 have h4:=tz1 (eg (ao r3 r4));refine w_6 ?_;refine ⟨.inr rfl, ?_⟩
 exact ⟨_,_,_,_,rfl,b5u,rfl,b5u,⟨cci (aou b5h b5h (fun e=>by
  rcases e with e | e
  · omega
  exact e (s7.1 ((by assumption:asI (orL ps) = IntKind.wrap .u32 (1 * 2 ^ (min n.toNat 32)) - 1).trans (a05 hz0 hz1))))).symm,trivial⟩⟩
def abk:goodFn b65 45:=wgx Tryz.func45
def a6a (n:Int) (ps:List AS) (p m:List Fd):aa b65 45 [pI n,pP (asl ps),pP (fdl p),pP (fdl m)] (af [pT (lcR n ps p m).1.1 (lcR n ps p m).1.2,pP (stl (lcR n ps p m).2.1),pT (lcR n ps p m).2.2.1.1 (lcR n ps p m).2.2.1.2,pI (lcR n ps p m).2.2.2]):=by
 refine hpx (nt:=58) Tryz.func45 ?_;refine sx7 ?_;refine m9 0 ?_;refine qy ?_;refine m9 1 ?_;refine w_7 ?_;refine qcx ab9 (a61 n ps) ?_;refine w_7 ?_;refine hcn (fun h0=>?_) (fun h0=>?_)
 · refine dy ?_;refine hrr ?_;have he:=ax0 (p:=p) (m:=m) (by assumption:¬ lvE n ps = 0);exact f9 rfl rfl (by rw [he];exact ⟨CoC.agg ⟨CoP.refl _,c9,trivial⟩,CoC.one (CoP.sl rfl (.inr rfl) (fun _=>rfl) (fun i j hi _=>absurd hi (b2o i))),CoC.agg ⟨CoP.refl _,c9,trivial⟩,CoC.refl _,trivial⟩)
 have hv:lvE n ps = 0:=by assumption
 refine w_7 ?_;refine qcx ac5 (a6v n p m) ?_;refine w_7 ?_;refine hcn (fun h1=>?_) (fun h1=>?_)
 · refine dy ?_;refine hrr ?_;have he:=awn hv (by assumption:¬ cj n p m = 0);exact f9 rfl rfl (by rw [he];exact ⟨CoC.agg ⟨CoP.refl _,c9,trivial⟩,CoC.one (CoP.sl rfl (.inr rfl) (fun _=>rfl) (fun i j hi _=>absurd hi (b2o i))),CoC.agg ⟨CoP.refl _,c9,trivial⟩,CoC.refl _,trivial⟩)
 have hb:cj n p m = 0:=by assumption
 refine w_5 ?_;refine qcx (wgx Tryz.func53) (aeh n ps hv) ?_;refine w_3 ?_;refine m9 2 ?_;refine vc ?_;refine qcx (wgx Tryz.func86) (ar1 n ps p m) ?_;refine w_4 ?_;refine m9 3 ?_;refine vc ?_;refine hrr ?_;have he:=afo hv hb;exact f9 rfl rfl (by rw [he];exact CoL.refl _)
def a3i:goodFn b65 47:=wgx Tryz.func47
def a0c (n:Int) (h0:0 <= n) (h1:n <= 16):aa b65 47 [pI n] (af [pZ (cu n)]):=by
 refine hpx (nt:=18) Tryz.func47 ?_;refine w_7 ?_;refine m9 0 ?_;refine dy ?_;refine c7 (ka 3 (ka 8 kn)) km (fun k=>⟨[(9,some (vI k))],[(0,some (.arr true 1 3 n.toNat (lf zC (stT n 0 (iu 32) k))))]⟩) n.toNat ⟨tt,⟨⟨_,rfl,(ac2 rfl (fun _=>rfl))⟩,trivial⟩⟩ ?_;rintro k hk;refine w_5 ?_;refine hcd (fun h0=>?_) (fun h0=>?_)
 · refine acb ?_;exact lpx (k + 1) ⟨tt,⟨⟨_,rfl,(awa (ais b5h) rfl b5h)⟩,trivial⟩⟩
 refine w_2 ?_;refine cz 3 rfl rfl rfl ?_;refine v_4 ?_;exact ⟨akr h1 b5h,trivial⟩
def ayu (n:Int) (ps:List AS) (p m:List Fd):aa b65 17 [pI n,pP (asl ps),pP (fdl p),pP (fdl m)] (af [pB (lsB n ps p m),pI (lsC n ps p m)]):=by
 refine hpx (nt:=33) Tryz.func17 ?_;refine j5 ?_;refine qcx abk (a6a n ps p m) ?_;refine w_5 ?_;refine m9 0 ?_;refine m9 1 ?_;refine dy ?_;refine ab rfl rfl (fun r0=>?_) (fun r0=>?_)
 ·
  have h0:=tz1 r0;have hz:=azw (n:=n) (ps:=ps) (p:=p) (m:=m) rfl h0;(iterate 2 refine qy ?_ (hg:=(gtt r0)));refine qcx a3i (a0c n hz.1 b5h) ?_ (hg:=(gtt r0));refine qcx zw (a4d (lcR n ps p m).2.2.1.1 (lcR n ps p m).2.2.1.2 (cu n)) ?_ (hg:=(gtt r0));refine w_6 ?_
  exact hx8 rfl rfl rfl (⟨ccb (by first | exact asw | exact akx (n:=n) (ps:=ps) (p:=p) (m:=m) b5i | exact (al1 (n:=n) (ps:=ps) (p:=p) (m:=m) b5i).symm),cci gq,trivial⟩)
 have h0:=tz2 r0;(iterate 4 refine k9 (gft r0) ?_);refine w_6 ?_
 exact hx8 rfl rfl rfl (⟨ccb (by first | exact asw | exact akx (n:=n) (ps:=ps) (p:=p) (m:=m) b5i | exact (al1 (n:=n) (ps:=ps) (p:=p) (m:=m) b5i).symm),cci gq,trivial⟩)
def aaf:goodFn b65 14:=wgx Tryz.func14
def a3b (n:Int) (ps:List AS):aa b65 14 [pI n,pP (asl ps)] (af [pI (lvE n ps)]):=by
 refine hpx (nt:=37) Tryz.func14 ?_;refine dy ?_;refine ab rfl rfl (fun r0=>?_) (fun r0=>?_)
 ·
  have h0:=tz1 r0;(iterate 2 refine k9 (gtf r0) ?_);refine w_7 ?_
  exact hx8 rfl rfl rfl (⟨cci (a8m b5h).symm,trivial⟩)
 have h0:=tz2 r0;(iterate 2 refine qy ?_ (hg:=(gff r0)));refine w_2 ?_;refine aj _ rfl (fun r1=>?_) (fun r1=>?_)
 · have h1:=tz1 (ao r0 r1);refine v_4 ?_;exact ⟨cci (a8m b5h).symm,trivial⟩
 have h1:=tz2 (ao r0 r1);refine w_8 ?_;refine hcd (fun h2=>?_) (fun h2=>?_)
 · refine v_4 ?_;exact ⟨cci (aom b5h b5h).symm,trivial⟩
 refine j5 ?_;refine c7 (ka 0 (ka 1 kn)) km (fun i=>⟨[(5,some (vA (orL (ps.take i)))),(6,some (vI i))],[]⟩) ps.length ⟨⟨⟨_,rfl,(CoR.refl _)⟩,tt⟩,trivial⟩ ?_;rintro i hi;refine w_8 ?_;refine hcd (fun h3=>?_) (fun h3=>?_)
 · refine v2 ?_;exact lpx (i + 1) ⟨⟨⟨_,rfl,(a8y (by rw [bOr,ac8 b5h];rfl))⟩,tt⟩,trivial⟩
 obtain rfl:i = ps.length:=by omega
 rw [show ps.take ps.length = ps from b3w];refine w_8 ?_;refine ab rfl rfl (fun r4=>?_) (fun r4=>?_)
 ·
  have h4:=tz1 r4;(iterate 4 refine k9 (gtf r4) ?_);refine w_7 ?_
  exact hx8 rfl rfl rfl (⟨cci (a8n b5h b5h (by first | exact .inl b5h | exact .inr (fun e=>absurd (show asI (orL ps) = asI (b5 n) by rw [e]) b5i))).symm,trivial⟩)
 have h4:=tz2 r4;(iterate 2 refine qy ?_ (hg:=(gff r4)));refine qcx (wgx Tryz.func36) (ake n) ?_ (hg:=(gff r4));refine qy ?_ (hg:=(gff r4));refine w_2 ?_;refine aj _ rfl (fun r5=>?_) (fun r5=>?_)
 · have h5:=tz2 (ec (ao r4 r5));refine v_4 ?_;exact ⟨cci (a8n b5h b5h (by first | exact .inl b5h | exact .inr (fun e=>absurd (show asI (orL ps) = asI (b5 n) by rw [e]) b5i))).symm,trivial⟩
 have h5:=tz1 (eg (ao r4 r5));refine w_6 ?_;refine ⟨.inr rfl, ?_⟩
 exact ⟨_,_,_,_,rfl,b5u,rfl,b5u,⟨cci (aou b5h b5h (fun e=>by
  rcases e with e | e
  · omega
  exact e (s7.1 b5i))).symm,trivial⟩⟩
end
section
inductive Lf (l:List Fd):AS -> AS -> Prop
 | leaf {s:AS}:qw l s = false -> Lf l s s
 | left {s q:AS}:qw l s = true -> Lf l (spA l s) q -> Lf l s q
 | right {s q:AS}:qw l s = true -> Lf l (spB l s) q -> Lf l s q
def aue (l:List Fd):Nat -> AS -> List AS
 | 0,s=>[s]
 | k + 1,s=>if qw l s = true then aue l k (spA l s) ++ aue l k (spB l s) else [s]
def a3k {s:Nat} {f:Nat -> Nat -> PV}:CoC (.one (.sl 0 s true f)) (pP (fdl [])):=CoC.one (CoP.sl rfl (.inr rfl) (fun h=>by cases h) fun i j hi _=>absurd hi (b2o i))
end
section
open Go.Proofs
def u8A (b:BitVec 8):AS:=b.setWidth 32
abbrev u8C:BitVec 8 -> Nat -> PV:=fun b _=>.raw (.int .u8 (b.toNat:Int))
end
section
section
variable {b:AS}
def acu {a:AS} (h:∀ i,i < 32 -> a.getLsbD i = b.getLsbD i):a = b:=b47 h
def auy {s:AS} (h:s ≠ 0):∃ i,i < 32 /\ s.getLsbD i = true:=by
 apply Classical.byContradiction;intro hn;refine h (acu fun i hi=>?_)
 cases hs:s.getLsbD i with
 | false=>simp
 | true=>exact absurd ⟨i,hi,hs⟩ hn
def aug {s:AS} {i:Nat} (h:s.getLsbD i = true):i < 32:=BitVec.lt_of_getLsbD h
def mq {s t:AS} {i:Nat} (hi:i < 32):(s &&& ~~~t).getLsbD i = (s.getLsbD i && !t.getLsbD i):=by simp [hi]
def avx (a:Nat):AS:=1#32 <<< a
def tq (m:Fd) (b:AS):Bool:=decide (b &&& m.lhs = 0) && (decide (b &&& m.rhs ≠ 0) && decide (b &&& ~~~m.rhs ≠ 0))
def hdB (m:Fd) (b:AS):AS:=if tq m b = true then b &&& m.rhs else b
def tlB (m:Fd) (b:AS):List AS:=if tq m b = true then [b &&& ~~~m.rhs] else []
def stB (m:Fd) (l:List AS) (i:Nat):List AS:=(l.take i).map (hdB m) ++ l.drop i ++ (l.take i).flatMap (tlB m)
def rdB (m:Fd) (l:List AS):List AS:=l.map (hdB m) ++ l.flatMap (tlB m)
def avc (ms:List Fd) (l:List AS):List AS:=ms.foldl (fun l m=>rdB m l) l
def auu:List Fd -> List AS -> Bool
 | [],_=>false
 | m :: ms,l=>l.any (tq m) || auu ms (rdB m l)
def an9 (ms:List Fd):Nat -> List AS -> List AS
 | 0,l=>l
 | f + 1,l=>if auu ms l = true then an9 ms f (avc ms l) else avc ms l
def muB:List AS -> Nat
 | []=>0
 | b :: l=>b.toNat * b.toNat + muB l
def alp {m:Fd}:tq m b = true <-> b &&& m.lhs = 0 /\ b &&& m.rhs ≠ 0 /\ b &&& ~~~m.rhs ≠ 0:=by simp [tq]
structure Blk (ms:List Fd) (rest:AS) (bs:List AS):Prop where
 nz:∀ b ∈ bs,b ≠ 0
 cnt:∀ a,a < 32 -> bs.countP (fun b=>b.getLsbD a) = if rest.getLsbD a = true then 1 else 0
 ind:∀ G:AS -> Prop,G rest -> (∀ m ∈ ms,∀ b,G b -> tq m b = true -> G (b &&& m.rhs) /\ G (b &&& ~~~m.rhs)) -> ∀ b ∈ bs,G b
variable {bs:List AS} {ms:List Fd} {rest:AS}
theorem Blk.rd (h:Blk ms rest bs) {m:Fd} (hm:m ∈ ms):Blk ms rest (rdB m bs):=by
 have hmem:∀ {b:AS},b ∈ rdB m bs -> ∃ b0 ∈ bs,(tq m b0 = false /\ b = b0) \/ (tq m b0 = true /\ (b = b0 &&& m.rhs \/ b = b0 &&& ~~~m.rhs)):=by
  intro b hb;unfold rdB at hb
  rcases b2z.1 hb with hb | hb
  · obtain ⟨b0,h0,rfl⟩:=b37.1 hb
    refine ⟨b0,h0, ?_⟩;cases hs:tq m b0 <;> simp [hdB,hs]
  obtain ⟨b0,h0,hb⟩:=List.mem_flatMap.1 hb;refine ⟨b0,h0, ?_⟩;cases hs:tq m b0
  · simp [tlB,hs] at hb
  simp [tlB,hs] at hb;exact .inr ⟨rfl, .inr hb⟩
 refine ⟨fun b hb=>?_,fun a ha=>?_,fun G h0 hG b hb=>?_⟩
 · obtain ⟨b0,h0,⟨_,rfl⟩ | ⟨hs,hb⟩⟩:=hmem hb
   · exact h.nz _ h0
   obtain ⟨_,h2,h3⟩:=alp.1 hs
   rcases hb with rfl | rfl
   · exact h2
   exact h3
 · rw [<- h.cnt a ha]
   have:∀ l:List AS,(l.map (hdB m)).countP (fun b=>b.getLsbD a) + (l.flatMap (tlB m)).countP (fun b=>b.getLsbD a) = l.countP (fun b=>b.getLsbD a):=by
    intro l
    induction l with
    | nil=>rfl
    | cons b l ih =>
     rw [b48,b53,List.countP_append,b4n,b4n,<- ih];cases hs:tq m b
     · simp [hdB,tlB,hs];omega
     simp only [hdB,tlB,hs,if_true,b4n,List.countP_nil,mq ha,b3y];cases b.getLsbD a <;> cases m.rhs.getLsbD a <;> simp <;> omega
   unfold rdB;rw [List.countP_append];exact this bs
 obtain ⟨b0,h1,⟨_,rfl⟩ | ⟨hs,hb⟩⟩:=hmem hb
 · exact h.ind G h0 hG _ h1
 obtain ⟨g1,g2⟩:=hG m hm b0 (h.ind G h0 hG _ h1) hs
 rcases hb with rfl | rfl
 · exact g1
 exact g2
def aao (rest:AS):List AS:=if rest = 0 then [] else [rest]
theorem Blk.start (ms:List Fd) (rest:AS):Blk ms rest (aao rest):=by
 unfold aao;by_cases h:rest = 0
 · subst h
   simp only [if_true];exact ⟨fun _ h=>by (cases h),fun a ha=>by simp,fun _ _ _ _ h=>by cases h⟩
 rw [if_neg h];exact ⟨fun b hb=>by (simp at hb;subst hb;exact h),fun a ha=>by simp [b4n],fun G h0 _ b hb=>by (simp at hb;subst hb;exact h0)⟩
def blks (ms:List Fd) (rest:AS):List AS:=an9 ms 18446744073709551616 (aao rest)
def afz {p:AS -> Bool} {l:List AS} (h:l.countP p <= 1) {a:AS} (ha:a ∈ l) (hb:b ∈ l) (pa:p a = true) (pb:p b = true):a = b:=by
 rw [List.countP_eq_length_filter] at h;have h1:a ∈ l.filter p:=b4r.2 ⟨ha,pa⟩;have h2:b ∈ l.filter p:=b4r.2 ⟨hb,pb⟩
 cases hl:l.filter p with
 | nil=>rw [hl] at h1;cases h1
 | cons x r =>
  rw [hl] at h h1 h2
  cases r with
  | nil=>simp at h1 h2;rw [h1,h2]
  | cons=>simp at h
theorem Blk.one (h:Blk ms rest bs) {b':AS} (hb:b ∈ bs) (hb':b' ∈ bs) {a:Nat} (h1:b.getLsbD a = true) (h2:b'.getLsbD a = true):b = b':=by
 refine afz (p:=fun b=>b.getLsbD a) ?_ hb hb' h1 h2;rw [h.cnt a (aug h1)];split <;> omega
theorem Blk.sub (h:Blk ms rest bs) (hb:b ∈ bs):Go.Hx.sub b rest:=dt.2 fun a ha hba=>by
 have h1:=h.cnt a ha;have h2:0 < bs.countP (fun b=>b.getLsbD a):=List.countP_pos_iff.2 ⟨b,hb,hba⟩
 cases hr:rest.getLsbD a with
 | true=>rfl
 | false=>rw [hr] at h1;simp only [b5b,if_false] at h1;omega
end
end
section
def sgl (f:Fd):List Fd:=(bc f.rhs).map fun a=>⟨f.lhs,avx a⟩
def aws (fs ms:List Fd):List Fd:=ms ++ fs.flatMap sgl
def lu (T:List AS) (r:AS):List AS:=if r ∈ T then T else T ++ [r]
def a2z {T:List AS} {r z:AS}:z ∈ lu T r <-> z ∈ T \/ z = r:=by
 unfold lu;split
 · rename_i h
   constructor
   · exact .inl
   rintro (h2 | rfl)
   · exact h2
   exact h
 simp
def s3 {T:List AS} {r:AS} (h:T.Nodup):(lu T r).Nodup:=by
 unfold lu;split
 · exact h
 rename_i hr;rw [List.nodup_append];exact ⟨h,by simp,fun a ha b hb=>by simp at hb;subst hb;rintro rfl;exact hr ha⟩
def a40 (s:AS) (o:List AS) (T:List AS):List AS:=T.foldl (fun o r=>lu o (r &&& ~~~s)) o
def mt (T:List AS) (s:AS):List AS:=a40 s [] T
def a2v {s:AS}:∀ {T o:List AS},(o.Nodup -> (a40 s o T).Nodup) /\ ∀ z,z ∈ a40 s o T <-> z ∈ o \/ ∃ r ∈ T,z = r &&& ~~~s
 | [],o=>⟨fun h=>h,fun z=>by simp [a40]⟩
 | r :: T,o=>by
  obtain ⟨h1,h2⟩:=a2v (s:=s) (T:=T) (o:=lu o (r &&& ~~~s));refine ⟨fun h=>h1 (s3 h),fun z=>?_⟩;show z ∈ a40 s (lu o (r &&& ~~~s)) T <-> _;rw [h2 z,a2z];simp only [b2s];constructor
  · rintro ((h | h) | ⟨q,hq,h⟩)
    · exact .inl h
    · exact .inr ⟨r, .inl rfl,h⟩
    exact .inr ⟨q, .inr hq,h⟩
  rintro (h | ⟨q,rfl | hq,h⟩)
  · exact .inl (.inl h)
  · exact .inl (.inr h)
  exact .inr ⟨q,hq,h⟩
def a2f {T:List AS} {s z:AS}:z ∈ mt T s <-> ∃ r ∈ T,z = r &&& ~~~s:=by
 have:=(a2v (s:=s) (T:=T) (o:=[])).2 z;simpa [mt] using this
def a4x (T:List AS) (s:AS):(mt T s).Nodup:=(a2v (s:=s) (T:=T) (o:=[])).1 List.nodup_nil
def va (d:Fd) (r k:AS):AS:=(r &&& (d.lhs ||| d.rhs)) ||| (k &&& ~~~(d.lhs ||| d.rhs))
def agB (d:Fd) (r k:AS):Bool:=decide ((r ^^^ k) &&& d.lhs = 0)
def anw {d:Fd} {r k:AS} {i:Nat} (hi:i < 32):(va d r k).getLsbD i = (if d.lhs.getLsbD i || d.rhs.getLsbD i then r.getLsbD i else k.getLsbD i):=by
 unfold va;rw [b52,mq hi,b3y,b52];cases d.lhs.getLsbD i <;> cases d.rhs.getLsbD i <;> simp
structure awt (fs ms:List Fd) (T:List AS):Prop where
 fd:∀ d ∈ fs,∀ r ∈ T,∀ k ∈ T,agB d r k = true -> (r ^^^ k) &&& d.rhs = 0
 mv:∀ d ∈ ms,∀ r ∈ T,∀ k ∈ T,agB d r k = true -> va d r k ∈ T
def awx (fs:List Fd) (bs:List AS) (a:Nat):Prop:=avx a ∈ bs /\ ∃ f ∈ fs,f.rhs.getLsbD a = true /\ f.lhs.getLsbD a = false
structure JT (fs:List Fd) (bs:List AS) (rest:AS) (T:List AS):Prop where
 z:(0:AS) ∈ T
 r:∀ r ∈ T,sub r rest /\ ∀ b ∈ bs,b &&& r = 0 \/ sub b r
 top:∃ L ∈ T,(∀ r ∈ T,sub r L) /\ ∀ a,a < 32 -> rest.getLsbD a = true -> L.getLsbD a = false -> awx fs bs a
section
variable {fs ms:List Fd} {bs:List AS} {rest:AS} {T:List AS}
def b0n (T:List AS) (b:AS):Prop:=∀ r ∈ T,∀ k ∈ T,((r &&& b) ||| (k &&& ~~~b)) ∈ T
structure b2d (fs ms:List Fd) (bs:List AS) (rest:AS) (T:List AS):Prop where
 j:JT fs bs rest T
 c:awt fs ms T
def qB (T:List AS) (L x rest y:AS):Prop:=y ≠ 0 /\ sub y rest /\ (L &&& ~~~(x ||| y)) ∈ T
end
end
section
def atm:List AS -> Nat
 | []=>0
 | b :: l=>b.toNat + atm l
def OkB (l:List AS):Prop:=atm l < 4294967296 /\ ∀ b ∈ l,b ≠ 0
def b28 (l:List AS) (i:Nat):Nat -> Nat -> PV:=fun k c=>if k < i then .any else sC (l.getD k default) c
structure BkI (ms:List Fd) (R:List AS) (x:Nat × List AS × Bool):Prop where
 ok:OkB x.2.1
 t:x.2.2 = true -> an9 ms x.1 x.2.1 = R /\ muB x.2.1 < x.1
 f:x.2.2 = false -> x.2.1 = R
def ckB (n:Int) (l m:List Fd) (s:AS):Int:=if cj n l m = 0 then (if s >>> n.toNat = 0 then 0 else 1) else cj n l m
def b1o (fs ms:List Fd) (i k:Nat):List Fd:=ms ++ (fs.take i).flatMap sgl ++ (sgl (fs.getD i default)).take k
end
section
open Go.Proofs
def b17 (x:Nat × List AS × Bool):Nat:=x.1 + (bif x.2.2 then 1 else 0)
end
section
def azo (b:AS) (f:Fd):Bool:=!decide ((f.rhs &&& ~~~f.lhs) &&& b = 0)
def apu (l:List Fd) (o b:AS):AS:=if bsz b = 1 then (if l.any (azo b) = true then o ||| b else o) else o
def azj (l:List Fd) (o:AS) (bs:List AS):AS:=bs.foldl (apu l) o
section
variable {l:List Fd} {o:AS} {bs:List AS} {i:Nat}
end
def ao4 (n:Int) (l m:List Fd) (x:AS):List AS:=ord (blks (aws l m) (b5 n &&& ~~~x))
def b20 (n:Int) (l m:List Fd) (x:AS):List AS:=if ckB n l m x = 0 then ao4 n l m x else []
def at0 (n:Int) (l m:List Fd) (x:AS):AS:=azj l x (ao4 n l m x)
def b1u (n:Int) (l m:List Fd) (x:AS):AS:=if ckB n l m x = 0 then at0 n l m x else 0
def ayi (p:AS) (bs:List AS):List AS:=(bs.filter fun b=>!decide (b &&& p = 0)).map fun b=>b &&& p
def am3 (n:Int) (l m:List Fd) (x p:AS):List AS:=ord (ayi p (ao4 n l m x))
def ck4 (n:Int) (l m:List Fd) (s:AS):Int:=if n < 0 \/ 8 < n then 7 else ckB n l m s
def b25 (n:Int) (l m:List Fd) (x p:AS):List AS:=if ck4 n l m (x ||| p) = 0 then am3 n l m x p else []
def azy (n:Int) (l m:List Fd) (p x:AS):Option Fd:=if p &&& ~~~(at0 n l m x) = 0 then none else if 1 < (am3 n l m x p).length then some ⟨x,(am3 n l m x p).getD 0 default⟩ else none
def anq (n:Int) (l m:List Fd) (p:AS):Option Fd:=(a8q p).findSome? (azy n l m p)
def am5:Option Fd -> Fd × Bool
 | some v=>(v,true)
 | none=>(⟨0,0⟩,false)
def az0 (n:Int) (l m:List Fd) (p:AS):Fd × Bool:=if ck4 n l m p = 0 then am5 (anq n l m p) else (⟨0,0⟩,false)
def a7r {α:Type} [Inhabited α] {l:List α} {i:Nat} (h:i < l.length):l.getD i default ∈ l:=by
 rw [b2i,b2h h];exact b2q h
def b0l (V:AS -> Option Fd):Prop:=∀ p v,V p = some v -> sub (v.lhs ||| v.rhs) p /\ v.lhs ||| v.rhs ≠ p /\ p &&& ~~~v.rhs ≠ p
section
variable {V:AS -> Option Fd}
def vF (V:AS -> Option Fd) (s:AS):Fd:=(am5 (V s)).1
def vBo (V:AS -> Option Fd) (s:AS):Bool:=(am5 (V s)).2
def aud (V:AS -> Option Fd) (s:AS):AS:=(vF V s).lhs ||| (vF V s).rhs
def aub (V:AS -> Option Fd) (s:AS):AS:=s &&& ~~~(vF V s).rhs
def a97 (V:AS -> Option Fd):Nat -> List AS -> List AS -> List AS
 | 0,_,out=>out
 | n + 1,todo,out =>
  if todo.length = 0 then out
  else if vBo V (todo.getD (todo.length - 1) default) = true then a97 V n (todo.take (todo.length - 1) ++ [aud V (todo.getD (todo.length - 1) default),aub V (todo.getD (todo.length - 1) default)]) out
  else a97 V n (todo.take (todo.length - 1)) (out ++ [todo.getD (todo.length - 1) default])
def b2a (V:AS -> Option Fd) (p0:AS) (x:Nat × List AS × List AS):Prop:=a97 V x.1 x.2.1 x.2.2 = a97 V 6562 [p0] [] /\ auz x.2.1 < x.1 /\ x.2.2.length + x.1 <= 6562
def lvG (V:AS -> Option Fd):Nat -> AS -> List AS
 | 0,s=>[s]
 | n + 1,s=>if vBo V s = true then lvG V n (aud V s) ++ lvG V n (aub V s) else [s]
end
def azc (n:Int) (l m:List Fd):List AS:=a97 (anq n l m) 6562 [b5 n] []
def b21 (n:Int) (l m:List Fd):List AS:=if ck4 n l m 0 = 0 then abr (azc n l m) else []
end
section
open Go.Proofs
def is4 (n:Int) (l m:List Fd):Bool:=if ck4 n l m 0 = 0 then !(az0 n l m (b5 n)).2 else false
end
section
structure Mx where
 d:Dps
 m:List Dp
deriving Inhabited
def Mx.mv (x:Mx):List Fd:=x.m.map (Dp.fd x.d.num)
def Mx.c (x:Mx):Nat -> PV
 | 0=>x.d.c 0
 | 1=>x.d.c 1
 | 2=>dpl x.m
 | _=>.any
abbrev Mx.pc (x:Mx):PC:=.agg [x.c 0,x.c 1,x.c 2]
def Mx.ok (x:Mx):Bool:=decide (x.d.l.length <= 6) && decide (x.m.length <= 4)
def b1v (n:Int) (l m:List Fd) (ps:List AS):Int:=if ck4 n l m 0 = 0 then lsC n ps l m else ck4 n l m 0
def b1r (n:Int) (l m:List Fd) (ps:List AS):Bool:=if ck4 n l m 0 = 0 then (if lsC n ps l m = 0 then lsB n ps l m && ps.all (fun p=>!vBo (anq n l m) p) else false) else false
end
section
open Go.Proofs Go.Proofs.YteklilhbjjofbaaGreatDoor
open Go.RowKit Go.ChangeShapes Go.WideShapes Go.ChangeAt
def s2C (x:AS × AS):Nat -> PV
 | 0=>asC x.1
 | 1=>asC x.2
 | _=>.any
end
section
structure Rcp where
 n:BitVec 8
 f:List Dp
 m:List Dp
 p:List (BitVec 8)
deriving Inhabited
def Rcp.num (d:Rcp) (k:Nat):Int:=1 + ((d.n.toNat % k:Nat):Int)
abbrev Rcp.pc (d:Rcp):PC:=.agg [.raw (.int .u8 (d.n.toNat:Int)),dpl d.f,dpl d.m,psl 1 u8C d.p]
def u8S (n:Int) (b:BitVec 8):AS:=b.setWidth 32 &&& b5 n
end
end Go.Hx

/- A part of the proof: Cc2 Cc3 Ls1 Cs24 Cs26 Cs27 Cs28 Cs30 Cs31 Cs32 Cs33 Cs34 Cs35 Cs36 Cz1m Cs37 Cs40 Cs42 Ls2 Ls3 Ls5 W0 W1 Ls6 W2a Rbm Bz1 Bz2 Bz3 Y1 Bz4 Y3 Bz5 Rb25 Ch22 X26. -/
import Derived.Test.YteklilhbjjofbaaGreatDoorLc23
set_option linter.all false
set_option maxRecDepth 100000
set_option maxHeartbeats 1000000
namespace Go.Hx
section
def axr:List (List Int) -> List Rw
 | []=>[[]]
 | c :: cs=>c.flatMap fun z=>(axr cs).map fun r=>z :: r
section
variable {N:Nat} {p m:List Fd} {l0 l:List Rw}
def adn {a b:Rw} {s:AS} {i:Nat} (h:i < b.length):(d7 a b s).getD i default = if bm s (i:Int) = true then a.getD i default else b.getD i default:=by
 unfold d7;rw [b2r,b35,b3t h];rfl
def alb (C:Nat -> List Int) (hd:∀ i j z,z ∈ C i -> z ∈ C j -> i = j):Mdl N p m (fun x y=>x = y \/ ∃ i,x ∈ C i /\ y ∈ C i) (fun r=>r.length = N /\ ∀ i,i < N -> r.getD i default ∈ C i) where
 refl _:=.inl rfl
 symm h:=by
  rcases h with h | ⟨i,h,k⟩
  · exact .inl h.symm
  exact .inr ⟨i,k,h⟩
 trans h h2:=by
  rcases h with h | ⟨i,h,k⟩
  · rw [h];exact h2
  rcases h2 with h2 | ⟨j,h2,k2⟩
  · rw [<- h2];exact .inr ⟨i,h,k⟩
  have:=hd i j _ k h2;subst this;exact .inr ⟨i,h,k2⟩
 len h:=h.1
 cong h e h2:=⟨e.trans h.1,fun i hi=>by
  have h3:=h.2 i hi
  rcases h2 i (by rw [h.1];exact hi) with h4 | ⟨j,h4,h5⟩
  · rw [<- h4];exact h3
  have:=hd i j _ h3 h4;subst this
  exact h5⟩
 fd _ a b ha hb _:=fun i hi _=>.inr ⟨i,ha.2 i (by rw [<- ha.1];exact hi),hb.2 i (by rw [<- ha.1];exact hi)⟩
 mv _ a b ha hb _:=⟨(it _ _ _).trans hb.1,fun i hi=>by
  rw [adn (by rw [hb.1];exact hi)];split
  · exact ha.2 i hi
  exact hb.2 i hi⟩
def ah4:Mdl N p m (fun x y=>0 <= x <-> 0 <= y) (fun r=>r.length = N /\ ∀ i,i < r.length -> 0 <= r.getD i default) where
 refl _:=Iff.rfl
 symm h:=h.symm
 trans h h2:=h.trans h2
 len h:=h.1
 cong h e h2:=⟨e.trans h.1,fun i hi=>(h2 i b5s).1 (h.2 i b5s)⟩
 fd _ a b ha hb _:=fun i hi _=>⟨fun _=>hb.2 i (by rw [hb.1,<- ha.1];exact hi),fun _=>ha.2 i hi⟩
 mv _ a b ha hb _:=⟨(it _ _ _).trans hb.1,fun i hi=>by
  rw [it] at hi;rw [adn hi];split
  · exact ha.2 i (by rw [ha.1,<- hb.1];exact hi)
  exact hb.2 i hi⟩
def afx (N:Nat) (p m:List Fd) (l0:List Rw):Prop:=∀ l,lz l -> (∀ r,r ∈ l -> LR N p m l0 r) -> l.length <= 256
end
section
variable {p m:List Fd} {l0 l:List Rw} {n:Int} {σ:Int -> Int}
def auh (h0:tok n l0 = true) (hS:afx n.toNat p m l0) (ho:lz l) (h:∀ r,r ∈ l -> LR n.toNat p m l0 r):tok n l = true:=by
 obtain ⟨h1,h2,_⟩:=j4 h0;refine ajj h1 h2 (hS l ho h) (fun r hr=>?_) ho;have h3:=h r hr _ _ ah4 fun r0 hr0=>⟨(li h0 r0 hr0).1,fun i hi=>(li h0 r0 hr0).2 _ (cu hi)⟩;refine ⟨h3.1,fun z hz=>?_⟩;obtain ⟨i,hi,rfl⟩:=pz hz;exact h3.2 i hi
def al7 {s:St} (h:(c8 n l p m s).2.2 = 0):lz (c8 n l p m s).2.1:=by
 unfold c8 at *;split at h
 · rename_i e
   rw [if_pos e];unfold mvE oi at *;split at h
   · rename_i e2
     rw [if_pos e2];split at h
     · exact absurd h b5x
     rename_i e3;rw [if_neg e3];exact o6 _
   exact absurd h b5x
 rename_i e;rw [if_neg e];unfold fdE at *;split at h
 · rename_i e2
   rw [if_pos e2];exact o6 _
 exact absurd h b5x
theorem Ch.step (h0:tok n l0 = true) (hS:afx n.toNat p m l0) (hp:p.all (inU n) = true) (hT:tok n l = true) (h:Ch n.toNat p m l0 l σ) {s:St} (hs:am0 l p m s) (he:(c8 n l p m s).2.2 = 0) :
 ∃ l' σ',c8 n l p m s = (n,l',0) /\ tok n l' = true /\ Ch n.toNat p m l0 l' σ':=by
 obtain ⟨h1,σ',h2⟩:=Ch.app (fun r hr=>(li h0 r hr).1) hT hp h hs he;have h3:=auh h0 hS (al7 he) h2.rows;refine ⟨_,σ', ?_,h3,h2⟩
 conv=>lhs;rw [<- Prod.eta (c8 n l p m s),<- Prod.eta (c8 n l p m s).2,h1,he]
def af5 {s:St} (h:uy l p m s):am0 l p m s:=by
 obtain ⟨h1,h2,h3⟩:=h;refine ⟨h1,h2,fun e=>?_,fun e=>?_⟩
 · rcases h3 with ⟨_,h,_⟩ | ⟨h,_⟩
   · exact h
   rw [e] at h;cases h
 rcases h3 with ⟨h,_⟩ | ⟨_,h,_⟩
 · rw [e] at h;cases h
 exact h
theorem Ch.code (h0:tok n l0 = true) (hS:afx n.toNat p m l0) (hp:p.all (inU n) = true) (hT:tok n l = true) (h:Ch n.toNat p m l0 l σ) {s:St} (hs:uy l p m s):(c8 n l p m s).2.2 = 0:=by
 rcases aci hT hp hs with e | ⟨l',e,_⟩
 · obtain ⟨mu,i,a,b⟩:=s
   obtain ⟨ha,hb,hs | hs⟩:=hs
   · obtain ⟨h1,h2,h3⟩:=hs
     cases h1;have h4:c8 n l p m (false,i,a,b) = fdE n l a b (p.getD i default):=rfl;have hg:=(agv hT (b3j.1 hp _ (cu h2)) ha hb h3).1;have hg:fdE n l a b (p.getD i default) = (n,fdL l a b (p.getD i default),0):=hg;rw [h4,hg] at e ⊢
   obtain ⟨h1,h2,h3⟩:=hs;cases h1;have h4:c8 n l p m (true,i,a,b) = mvE n l a b (m.getD i default):=rfl;have h5:ef l (m.getD i default) a b = true:=h3;unfold ef at h5;rw [b2x] at h5;have h6:mvE n l a b (m.getD i default) = oi n l (d7 (l.getD a default) (l.getD b default) ((m.getD i default).lhs ||| (m.getD i default).rhs)):=if_pos h5.1;have hl0:∀ r,r ∈ l0 -> r.length = n.toNat:=fun r hr=>(li h0 r hr).1
   have h7:=hS (aw (l ++ [d7 (l.getD a default) (l.getD b default) ((m.getD i default).lhs ||| (m.getD i default).rhs)])) (o6 _) fun r hr=>by
    rcases b3f.1 (dt.1 hr) with h8 | h8
    · exact h.rows r h8
    rw [b39.1 h8];exact (a0w hl0).mv (cu h2) (h.rows _ (cu ha)) (h.rows _ (cu hb)) (afu hl0 h5.1)
   rw [h4,h6];unfold oi;rw [if_neg b5s]
 rw [e]
def TrZ (n:Int) (p m:List Fd) (lend:List Rw):List Rw -> List St -> Prop
 | l,[]=>l = lend
 | l,s :: r=>tok n l = true /\ uy l p m s /\ ∃ l',c8 n l p m s = (n,l',0) /\ ¬ l' = l /\ TrZ n p m lend l' r
end
def stC (n:Int) (ps:List AS) (c:Nat):List Int:=if c < n.toNat then (List.range ps.length).map fun i=>stV n i (ps.getD i default) c else []
section
variable {n:Int} {ps:List AS} {p m:List Fd}
def ap3 (h0:0 <= n) {i c:Nat} {q:AS} (hc:c < n.toNat):stV n i q c % n = (c:Int):=by
 unfold stV;split
 · exact Int.emod_eq_of_lt b5s b5s
 have e:n + (i:Int) * n + (c:Int) = (c:Int) + n * (1 + (i:Int)):=by rw [Int.mul_add,Int.mul_one,Int.mul_comm (i:Int) n];omega
 rw [e,Int.add_mul_emod_self_left];exact Int.emod_eq_of_lt b5s b5s
def a5i (h0:0 <= n) {c:Nat} {z:Int} (h:z ∈ stC n ps c):c < n.toNat /\ z % n = (c:Int):=by
 unfold stC at h;split at h
 · rename_i hc
   obtain ⟨i,_,rfl⟩:=b3a.1 h;exact ⟨hc,ap3 h0 hc⟩
 simp at h
def as7 (h0:0 <= n):∀ i j z,z ∈ stC n ps i -> z ∈ stC n ps j -> i = j:=fun i j z h k=>by
 have h1:=(a5i h0 h).2;have h2:=(a5i h0 k).2;omega
def a4h {r:Rw} (hr:r ∈ au n ps):r.length = n.toNat /\ ∀ i,i < n.toNat -> r.getD i default ∈ stC n ps i:=by
 unfold au at hr;obtain ⟨k,hk,rfl⟩:=b3a.1 hr;refine ⟨a5z _ _ _,fun i hi=>?_⟩;rw [aja hi];unfold stC;rw [if_pos hi];exact b3a.2 ⟨k,hk,rfl⟩
end
end
section
section
variable {n:Int} {ps:List AS} {p m:List Fd} {l l0:List Rw} {σ:Int -> Int}
def atm {N:Nat} {l l':List Rw} (h:∀ r,r ∈ l <-> r ∈ l') {r:Rw}:LR N p m l r <-> LR N p m l' r :=
 ⟨fun k E R hm hl=>k E R hm fun r hr=>hl r ((h r).1 hr),fun k E R hm hl=>k E R hm fun r hr=>hl r ((h r).2 hr)⟩
def aiz (h0:0 <= n) {c:Nat} {z:Int} (h:z ∈ stC n ps c):z = (c:Int) \/ n <= z:=by
 unfold stC at h;split at h
 · obtain ⟨i,_,rfl⟩:=b3a.1 h
   unfold stV;split
   · exact .inl rfl
   right;have:=Int.mul_nonneg (show (0:Int) <= (i:Int) by omega) h0;omega
 simp at h
theorem Ch.first (h0:0 <= n) (h:Ch n.toNat p m (aw (au n ps)) l σ):(c7 n).map σ = c7 n:=by
 refine a6v fun z hz=>?_;unfold c7 at hz;obtain ⟨c,hc,rfl⟩:=b3a.1 hz;have hc:=b3e.1 hc;have h1:=h.sym (c:Int) _ _ (alb (stC n ps) (as7 h0)) fun r hr=>a4h (dt.1 hr)
 rcases h1 with h1 | ⟨i,h1,h2⟩
 · exact h1.symm
 have h3:=(a5i h0 h1).2;have h4:=Int.emod_eq_of_lt (a:=(c:Int)) (b:=n) b5s b5s;have h5:i = c:=by omega
 subst h5;have h6:=h.le (i:Int)
 rcases aiz h0 h2 with h7 | h7
 · exact h7
 omega
def aht {r:Rw}:(l.any fun x=>decide (x = r)) = decide (r ∈ l):=by
 rw [b5h,b3l,decide_eq_true_iff];constructor
 · rintro ⟨x,hx,e⟩
   rw [<- of_decide_eq_true e];exact hx
 intro h;exact ⟨r,h,decide_eq_true rfl⟩
def swI (n z:Int):Int:=if n <= z /\ z < 2 * n then z + n else if 2 * n <= z /\ z < 3 * n then z - n else z
abbrev b19 (n:Int) (x:Fd):Fd:=⟨x.lhs,ai n &&& ~~~(x.lhs ||| x.rhs)⟩
end
end
section
section
variable {n:Int} {p m:List Fd} {l0 l:List Rw} {σ:Int -> Int}
def aku (hT:tok n l = true) (hp:p.all (inU n) = true) (hm:m = []) {s:St} (hs:uy l p m s):(c8 n l p m s).2.2 = 0:=by
 obtain ⟨mu,i,a,b⟩:=s;obtain ⟨ha,hb,hs | hs⟩:=hs
 · obtain ⟨h1,h2,h3⟩:=hs
   cases h1;have h4:c8 n l p m (false,i,a,b) = fdE n l a b (p.getD i default):=rfl;have hg:fdE n l a b (p.getD i default) = (n,fdL l a b (p.getD i default),0):=(agv hT (b3j.1 hp _ (cu h2)) ha hb h3).1;rw [h4,hg]
 obtain ⟨_,h2,_⟩:=hs;subst hm;exact absurd h2 (b2y _)
def aig (hl0:∀ r,r ∈ l0 -> r.length = n.toNat) (hp:p.all (inU n) = true) (Z:List Int):∀ (F:Nat) (l:List Rw) (acc:List St) (σ:Int -> Int),tok n l = true -> Ch n.toNat p m l0 l σ -> Cov Z l -> muC Z l < F ->
 (f3 F n l p m acc = ([],(0,[]),3) /\ ¬ m = []) \/ ∃ sts lend σ',f3 F n l p m acc = (acc ++ sts,(n,lend),0) /\ Ch n.toNat p m l0 lend σ' /\ tok n lend = true /\ d9 lend p m = none /\ TrZ n p m lend l sts:=by
 intro F
 induction F with
 | zero=>intro _ _ _ _ _ _ h;exact absurd h (b2y _)
 | succ F ih =>
  intro l acc σ hT hC hZ hF
  cases hn:d9 l p m with
  | none=>exact .inr ⟨[],l,σ,by rw [a4p b5s hn,b3u],hC,hT,hn,rfl⟩
  | some s =>
   have hs:=a57 hn
   rcases aci hT hp hs with e | ⟨l',e,hT',h3⟩
   · left
     refine ⟨a3s b5s hn e b5x,fun hm=>?_⟩;have:=aku hT hp hm hs;rw [e] at this;exact absurd this b5x
   obtain ⟨h4,h5⟩:=h3 Z hZ;obtain ⟨_,σ',hC'⟩:=Ch.app hl0 hT hp hC (af5 hs) (by rw [e]);rw [e] at hC'
   rcases ih l' (acc ++ [s]) σ' hT' hC' h4 b5s with ⟨q,q0⟩ | ⟨sts,lend,σ2,q1,q2,q3,q4,q5⟩
   · left
     exact ⟨by rw [uv b5s hn e,Nat.add_sub_cancel,q],q0⟩
   right;refine ⟨s :: sts,lend,σ2, ?_,q2,q3,q4,hT,hs,l',e,fun e=>?_,q5⟩
   · rw [uv b5s hn e,Nat.add_sub_cancel,q1,b3x]
     rfl
   subst e;omega
def aii (hT:tok n l = true) (hb:cg n p m = 0):(ig FU n l p m = ([],(0,[]),3) /\ ¬ m = []) \/ ∃ sts lend σ,ig FU n l p m = (sts,(n,lend),0) /\ Ch n.toNat p m l lend σ /\ tok n lend = true /\ d9 lend p m = none /\ TrZ n p m lend l sts:=by
 have hck:ckE n l p m = 0:=(if_pos hT).trans hb;rw [xy hck]
 rcases aig (fun r hr=>(li hT r hr).1) (a5b hb).2.2.2.1 l.flatten FU l [] id hT Ch.start (ac6 l) (ak8 hT) with h | ⟨sts,lend,σ',q1,q⟩
 · exact .inl h
 exact .inr ⟨sts,lend,σ',by rw [q1,b4e],q⟩
def trL (n:Int) (p m:List Fd):List Rw -> List St -> List (List Rw)
 | l,[]=>[l]
 | l,s :: r=>l :: trL n p m (c8 n l p m s).2.1 r
def a6l:∀ {sts:List St} {l:List Rw},(trL n p m l sts).length = sts.length + 1
 | [],_=>rfl
 | s :: r,l=>by unfold trL;rw [b41,a6l,b41]
def aav:∀ {sts:List St} {l lend:List Rw},TrZ n p m lend l sts -> lend ∈ trL n p m l sts
 | [],l,lend,h=>by
  have h:l = lend:=h;subst h;simp [trL]
 | s :: r,l,lend,h=>by
  obtain ⟨_,_,l',e,_,h⟩:=h;unfold trL;rw [e];exact b3h _ (aav h)
def aj5 (hl0:∀ r,r ∈ l0 -> r.length = n.toNat) (hp:p.all (inU n) = true):∀ {sts:List St} {l lend:List Rw} {σ:Int -> Int},TrZ n p m lend l sts -> tok n lend = true -> Ch n.toNat p m l0 l σ -> ∀ t,t ∈ trL n p m l sts -> ∃ σ,Ch n.toNat p m l0 t σ
 | [],l,lend,σ,h,_,hC,t,ht=>by
  rw [b39.1 (show t ∈ [l] from ht)];exact ⟨σ,hC⟩
 | s :: r,l,lend,σ,h,hTe,hC,t,ht=>by
  obtain ⟨hT,hs,l',e,_,h⟩:=h;unfold trL at ht;rw [e] at ht
  rcases b2z.1 ht with rfl | ht
  · exact ⟨σ,hC⟩
  obtain ⟨_,σ',hC'⟩:=Ch.app hl0 hT hp hC (af5 hs) (by rw [e]);rw [e] at hC';exact aj5 hl0 hp h hTe hC' t ht
end
section
variable {n:Int} {ps:List AS} {p m:List Fd}
def a3y (h0:0 <= n) (h16:n <= 16) (hk:ps.length <= 64):tok n (aw (au n ps)) = true:=by
 refine zw h0 h16 ?_ fun r hr=>?_
 · have:=a7m (au n ps)
   rw [qu] at this;omega
 obtain ⟨h1,h2⟩:=a4h hr;refine ⟨h1,fun z hz=>?_⟩;obtain ⟨i,hi,rfl⟩:=pz hz
 rcases aiz h0 (h2 i b5s) with h3 | h3 <;> omega
def za (hk:ps.length <= 64) (hb:cg n p m = 0) :
 (ig FU n (aw (au n ps)) p m = ([],(0,[]),3) /\ ¬ m = []) \/ ∃ sts lend,ig FU n (aw (au n ps)) p m = (sts,(n,lend),0) /\ (c7 n ∈ lend <-> LR n.toNat p m (au n ps) (c7 n)) /\
  TrZ n p m lend (aw (au n ps)) sts /\ tok n lend = true /\ ((∃ t,t ∈ trL n p m (aw (au n ps)) sts /\ c7 n ∈ t) <-> c7 n ∈ lend):=by
 obtain ⟨h0,h16,_,hp,_⟩:=a5b hb;have hT:=a3y h0 h16 hk;have hl0:∀ r,r ∈ aw (au n ps) -> r.length = n.toNat:=fun r hr=>(li hT r hr).1
 rcases aii hT hb with h | ⟨sts,lend,σ,h1,h2,h3,h4,h5⟩
 · exact .inl h
 right
 have hf:c7 n ∈ lend <-> LR n.toNat p m (aw (au n ps)) (c7 n):=by
  rw [h2.mem h3 hl0 h4];exact ⟨fun h=>h.1,fun h=>⟨h,h2.first h0⟩⟩
 refine ⟨sts,lend,h1,by rw [hf,atm (l':=au n ps) fun r=>dt],h5,h3, ?_⟩;constructor
 · rintro ⟨t,ht,hft⟩
   obtain ⟨σ',hC⟩:=aj5 hl0 hp h5 h3 Ch.start t ht;exact hf.2 (hC.rows _ hft)
 intro h;exact ⟨lend,aav h5,h⟩
end
end
section
section
variable {n:Int} {l:List Fd}
end
def a5n {α β:Type} [Inhabited α] {f:α -> β} {l:List α} {i:Nat} (h:i < l.length):(l.take (i + 1)).map f = (l.take i).map f ++ [f (l.getD i default)]:=by
 rw [bi h,b5m];rfl
structure Dps where
 n:BitVec 8
 l:List Dp
deriving Inhabited
def Dps.num (d:Dps):Int:=((d.n.toNat % 7:Nat):Int)
def Dps.fds (d:Dps):List Fd:=d.l.map (Dp.fd d.num)
def Dps.c (d:Dps):Nat -> PV
 | 0=>.raw (.int .u8 (d.n.toNat:Int))
 | 1=>dpl d.l
 | _=>.any
abbrev Dps.pc (d:Dps):PC:=.agg [d.c 0,d.c 1]
end
section
def noA (s:AS) (a:Nat):AS:=s &&& ~~~((1:AS) <<< a)
def aw5 (n:Int) (l:List Fd) (s:AS) (a:Nat):AS:=if a69 n l (noA s a) = true then noA s a else s
def ax8 (n:Int) (l:List Fd) (s:AS) (k:Nat):AS:=(List.range k).foldl (fun s j=>aw5 n l s (n.toNat - 1 - j)) s
def rkE (n:Int) (l:List Fd) (s:AS):Int:=if d6 n l = 0 then (if a69 n l s = true then 0 else 1) else d6 n l
def rkS (n:Int) (l:List Fd) (s:AS):AS:=if rkE n l s = 0 then ax8 n l s n.toNat else 0
def axf (n:Int) (l:List Fd) (s:AS):Bool:=a69 n l s && (List.range n.toNat).all fun a=>!(s.getLsbD a && a69 n l (noA s a))
def ay2 (n:Int) (l:List Fd) (i:Nat):List AS:=((List.range i).map (BitVec.ofNat 32)).filter (axf n l)
def ao2 (n:Int) (l:List Fd):List AS:=if d6 n l = 0 then ord (ay2 n l (2 ^ n.toNat)) else []
end
section
def bC:Bool -> Nat -> PV:=fun b _=>.raw (.bool b)
def ali (n:Int) (l:List Fd) (k:Nat):Bool:=decide (clo l (BitVec.ofNat 32 k) = ai n)
def azy (n:Int) (l:List Fd) (i:Nat):List Bool:=(List.range (2 ^ n.toNat)).map fun k=>decide (k < i) && ali n l k
def b1n (n:Int) (l:List Fd):List Bool:=azy n l (2 ^ n.toNat)
end
section
section
variable {n:Int} {l:List Fd}
def okA (n:Int) (l:List Fd) (i a:Nat):Bool:=ali n l i && (List.range a).all fun b=>!(i.testBit b && ali n l (i ^^^ 2 ^ b))
section
variable {i a:Nat} (hv:d6 n l = 0) (hi:i < 2 ^ n.toNat) (ha:(a:Int) < n) (hx:i ^^^ 2 ^ a < 2 ^ n.toNat)
include hv hi ha hx
end
end
end
section
def agf (s:AS):Nat -> AS -> List AS
 | 0,_=>[]
 | n + 1,x=>if x = 0 then [] else x :: agf s n ((x - 1) &&& s)
def a8o (s:AS):List AS:=0 :: agf s (s.toNat + 1) s
def sub_zero (s:AS):sub 0 s:=bu.2 fun i hi h=>by simp at h
def TsI (s:AS) (x:Nat × List AS × AS):Prop:=x.2.1 ++ agf s x.1 x.2.2 = a8o s /\ x.2.2.toNat < x.1 /\ x.2.1.length + x.1 = s.toNat + 2
def aa7 (l:List Fd) (p s:AS):Bool:=decide (sub p (clo l s))
def ayu (l:List Fd) (p x:AS):Bool:=(List.range 32).all fun a=>!(x.getLsbD a && aa7 l p (noA x a))
def b1q (l:List Fd) (p x r:AS):Prop:=sub r x /\ ∀ a,a < 32 -> x.getLsbD a = true -> r.getLsbD a = true \/ aa7 l p (noA x a) = false
def alq (l:List Fd) (p x:AS):Bool:=aa7 l p x && ayu l p x
def ahj (l:List Fd) (p:AS):AS:=orL ((a8o p).filter (alq l p))
def a0q {k:Nat}:∀ {ps:List AS} {s:AS},(ps.foldl (· ||| ·) s).getLsbD k = (s.getLsbD k || ps.any fun x=>x.getLsbD k)
 | [],s=>by simp
 | x :: ps,s=>by
  rw [List.foldl_cons,a0q,b4l,List.any_cons,Bool.or_assoc]
def b07 (l:List Fd) (p:AS) (i:Nat):AS:=orL (((a8o p).take i).filter (alq l p))
def adr (a:List AS) (x:AS):orL (a ++ [x]) = orL a ||| x:=by unfold orL;rw [b5b];rfl
end
section
def b1t (l:List Fd) (p x:AS) (a:Nat):Bool:=(List.range a).all fun b=>!(x.getLsbD b && aa7 l p (noA x b))
def azi (i:Nat):List AS:=(List.range i).map (BitVec.ofNat 32)
def prQ (l:List Fd) (p x:AS):Bool:=decide (sub x p) && alq l p x
def b09 (l:List Fd) (p:AS) (i:Nat):AS:=orL ((azi i).filter (prQ l p))
section
variable {l:List Fd} {p:AS} {i:Nat}
end
def b01 (l:List Fd) (p x:AS):Bool:=!aa7 l p x && decide (((clo l x &&& p) &&& ~~~x) &&& ~~~ahj l p ≠ 0)
def aub (l:List Fd) (p:AS):Bool:=!(a8o p).any (b01 l p)
def b03 (n:Int) (l:List Fd) (p:AS):Int:=if d6 n l = 0 then (if sub p (ai n) then 0 else 1) else d6 n l
def b2b (n:Int) (l:List Fd) (p:AS):Bool:=decide (b03 n l p = 0) && aub l p
end
section
section
variable {n:Int} {l:List Fd}
def at1 (n:Int) (l:List Fd) (f:Fd):Bool:=decide (clo l f.lhs ≠ ai n) && decide (f.rhs &&& ~~~ahj l (ai n) ≠ 0)
def b0y (n:Int) (l:List Fd) (i:Nat):List Fd:=((afe n l).take i).filter (at1 n l)
def b0m (n:Int) (l:List Fd):List Fd:=(afe n l).filter (at1 n l)
end
end
section
def b00 (l:List Fd) (pr k:AS):Bool:=(List.range 32).all fun a=>!k.getLsbD a || decide (sub (clo l (noA k a)) pr)
def ayz (n:Int) (l:List Fd):Bool:=(ao2 n l).all (b00 l (orL (ao2 n l)))
def b29 (n:Int) (l:List Fd):Bool:=decide (d6 n l = 0) && ayz n l
section
variable {l:List Fd} {pr k:AS}
def b1m (l:List Fd) (pr k r:AS):Prop:=sub r k /\ ∀ a,a < 32 -> k.getLsbD a = true -> r.getLsbD a = true \/ sub (clo l (noA k a)) pr
def b2g (l:List Fd) (pr k:AS) (s:Nat):Prop:=∀ j,j < s -> sub (BitVec.ofNat 32 j) k -> sub (clo l (BitVec.ofNat 32 j)) pr
end
section
variable {n:Int} {l:List Fd}
end
end
section
def mgR (l:List Fd) (s:AS):AS:=(l.filter fun f=>decide (f.lhs = s)).foldl (fun a f=>a ||| f.rhs) 0
def mgF (l:List Fd) (s:AS):Fd:=⟨s,mgR l s⟩
def ayn (l:List Fd):List Fd:=(ord (l.map Fd.lhs)).map (mgF l)
end
section
open Go.Proofs
def b0u (t:AS) (l:List Fd):Prop:=∀ x ∈ l,sub x.rhs t
def ah0 (n:Int) (l:List Fd):List Fd:=ayn (afe n l)
def pt (f:Fd):AS:=f.lhs ||| f.rhs
section
variable {n:Int} {l:List Fd}
def ao5 (n:Int) (l:List Fd) (i:Nat):Bool:=((ah0 n l).take i).any fun f=>a69 n l (pt f)
def ah3 (n:Int) (l:List Fd):List AS:=(ah0 n l).map pt
def azb (n:Int) (l:List Fd):List AS:=ac3 (if ao5 n l (ah0 n l).length = true then ah3 n l else ah3 n l ++ [rkS n l (ai n)])
def b1c (n:Int) (l:List Fd):List AS:=if d6 n l = 0 then azb n l else []
def b1k (n:Int) (l:List Fd):List AS:=if ao5 n l (ah0 n l).length = true then ah3 n l else ah3 n l ++ [rkS n l (ai n)]
end
end
section
def Eqv (l k:List Fd):Prop:=∀ s,oz l s <-> oz k s
theorem Eqv.refl (l:List Fd):Eqv l l:=fun s=>Iff.rfl
theorem Eqv.trans {a b c:List Fd} (h:Eqv a b) (k:Eqv b c):Eqv a c:=fun s=>(h s).trans (k s)
theorem Eqv.clo {l k:List Fd} (h:Eqv l k) (s:AS):clo l s = clo k s :=
 oh (a75 ((h _).2 yk) aio) (a75 ((h _).1 yk) aio)
end
section
def b0k (l:List Fd) (ps:List AS) (t:AS):Prop:=∀ p ∈ ps,sub (clo l (t &&& p) &&& p) t
def axt (l:List Fd) (s p:AS):AS:=s ||| (clo l (s &&& p) &&& p)
def b0e (l:List Fd) (ps:List AS) (s:AS):AS:=ps.foldl (axt l) s
def PrI (l:List Fd) (ps:List AS) (z s:AS):Prop:=sub z s /\ sub s (ame l ps z)
def b2h (n:Int) (l:List Fd) (i:Nat):List AS:=((a8m (ai n)).take i).filter fun s=>!re l s
end
section
def b08 (l:List Fd):Prop:=∀ f ∈ l,∀ i,i < 32 -> f.rhs.getLsbD i = true -> f.lhs.getLsbD i = false
section
variable {n:Int} {l:List Fd}
end
end
section
open Go.Proofs
def aqc {ps:List AS} {k:AS} (h:k ∈ ps):sub k (orL ps):=bu.2 fun i hi hb=>by
 unfold orL;rw [a0q,b43];exact .inr (b3l.2 ⟨k,h,hb⟩)
section
variable {n:Int} {l:List Fd}
end
end
section
section
variable {n:Int} {l:List Fd}
def avw {L:List AS} {t:AS} (h:∀ x ∈ L,sub x t):sub (orL L) t:=bu.2 fun i hi hb=>by
 unfold orL at hb;rw [a0q,b43] at hb
 rcases hb with hb | hb
 · simp at hb
 obtain ⟨x,hx,hxb⟩:=b3l.1 hb;exact bu.1 (h x hx) i hi hxb
end
end
section
def am5 (E:Int -> Int -> Prop) (R:Rw -> Prop) (s:AS):Prop:=∃ r,R r /\ ∀ i:Nat,i < r.length -> bm s (i:Int) = true -> E (r.getD i default) (i:Int)
section
variable {N:Nat} {p m:List Fd} {E:Int -> Int -> Prop} {R:Rw -> Prop}
def al8 {s t:AS} (h:sub s t) {i:Nat} (hi:bm s (i:Int) = true):bm t (i:Int) = true:=by
 by_cases hl:i < 32
 · rw [fg hl] at hi ⊢
   exact bu.1 h i hl hi
 rw [a4x b5s] at hi;cases hi
def am5.mono {s t:AS} (h:am5 E R t) (hs:sub s t):am5 E R s:=by
 obtain ⟨r,h1,h2⟩:=h;exact ⟨r,h1,fun i hi hh=>h2 i hi (al8 hs hh)⟩
end
section
variable {n:Int} {p m:List Fd} {ps:List AS}
def an1 {c:Nat} (hc:c < n.toNat):(c7 n).getD c default = (c:Int):=by
 unfold c7;rw [b2r,b35,b3t hc];rfl
end
end
section
def lvE (n:Int) (ps:List AS):Int:=if n < 0 \/ 8 < n then 7 else if 64 < ps.length then 3 else if ps.length = 0 \/ ¬ orL ps = ai n then 1 else 0
section
variable {n:Int} {ps:List AS} {p m:List Fd}
def ao3 (h:n < 0 \/ 8 < n):lvE n ps = 7:=if_pos h
def ay5 (h:¬ (n < 0 \/ 8 < n)) (h2:64 < ps.length):lvE n ps = 3:=by unfold lvE;rw [if_neg h,if_pos h2]
def aoy (h:¬ (n < 0 \/ 8 < n)) (h2:¬ 64 < ps.length) (h3:ps.length = 0 \/ ¬ orL ps = ai n):lvE n ps = 1:=by unfold lvE;rw [if_neg h,if_neg h2,if_pos h3]
def aos (h:¬ (n < 0 \/ 8 < n)) (h2:¬ 64 < ps.length) (h3:¬ (ps.length = 0 \/ ¬ orL ps = ai n)):lvE n ps = 0:=by unfold lvE;rw [if_neg h,if_neg h2,if_neg h3]
def qa (h:lvE n ps = 0):0 <= n /\ n <= 8 /\ ps.length <= 64 /\ 0 < ps.length /\ orL ps = ai n:=by
 unfold lvE at h;split at h
 · exact absurd h b5x
 split at h
 · exact absurd h b5x
 split at h
 · exact absurd h b5x
 rename_i h1 h2 h3;refine ⟨by omega,by omega,by omega,by omega, ?_⟩;apply Classical.byContradiction;intro e;exact h3 (.inr e)
def lsT (n:Int) (ps:List AS) (p m:List Fd):List St × (Int × List Rw) × Int:=ig FU n (aw (au n ps)) p m
def lsC (n:Int) (ps:List AS) (p m:List Fd):Int:=if lvE n ps = 0 then (if cg n p m = 0 then (lsT n ps p m).2.2 else cg n p m) else lvE n ps
def lsB (n:Int) (ps:List AS) (p m:List Fd):Bool:=decide (lsC n ps p m = 0) && (lsT n ps p m).2.1.2.any fun r=>decide (r = c7 n)
def a8g (h:lvE n ps = 0) (h2:cg n p m = 0):lsC n ps p m = (lsT n ps p m).2.2:=(if_pos h).trans (if_pos h2)
def zd (h:lsC n ps p m = 0):lvE n ps = 0 /\ cg n p m = 0:=by
 unfold lsC at h;split at h
 · rename_i e
   split at h
   · rename_i e2;exact ⟨e,e2⟩
   rename_i e2;exact absurd h e2
 rename_i e;exact absurd h e
def ato (h:lvE n ps = 0) {q:AS} (hq:q ∈ ps):sub q (ai n):=by
 rw [<- (qa h).2.2.2.2];exact aqc hq
def amh (h:lvE n ps = 0):eu n ps = (n,aw (au n ps),0):=by
 obtain ⟨h0,h8,h64,_⟩:=qa h;exact a9l b5s b5s fun j hj=>(ay0 h0 b5s).1 (ato h (cu hj))
def b1g (n:Int) (p:List Fd) (ps:List AS):Bool:=lsB n ps p [] && !ps.any (re p)
end
end
section
abbrev tbC (a:Int × List Rw):Nat -> PV:=fun j=>[.raw (.int .i64 a.1),rl a.2].getD j .any
def lcR (n:Int) (ps:List AS) (p m:List Fd):(Int × List Rw) × List St × (Int × List Rw) × Int :=
 if lvE n ps = 0 then (if cg n p m = 0 then ((n,aw (au n ps)),(lsT n ps p m).1,(lsT n ps p m).2.1,(lsT n ps p m).2.2) else ((0,[]),[],(0,[]),cg n p m)) else ((0,[]),[],(0,[]),lvE n ps)
section
variable {n:Int} {ps:List AS} {p m:List Fd} {l lend:List Rw}
def ax0 (h:¬ lvE n ps = 0):lcR n ps p m = ((0,[]),[],(0,[]),lvE n ps):=if_neg h
def ayb (h:lvE n ps = 0) (h2:¬ cg n p m = 0):lcR n ps p m = ((0,[]),[],(0,[]),cg n p m):=(if_pos h).trans (if_neg h2)
def ag9 (h:lvE n ps = 0) (h2:cg n p m = 0):lcR n ps p m = ((n,aw (au n ps)),(lsT n ps p m).1,(lsT n ps p m).2.1,(lsT n ps p m).2.2):=(if_pos h).trans (if_pos h2)
def gl:(lcR n ps p m).2.2.2 = lsC n ps p m:=by
 unfold lcR lsC;split
 · split <;> rfl
 rfl
def alv (h:(lcR n ps p m).2.2.2 = 0):((lcR n ps p m).2.2.1.2.any fun r=>decide (r = c7 n)) = lsB n ps p m:=by
 have hc:=h;rw [gl] at hc;obtain ⟨h1,h2⟩:=zd hc;unfold lsB;rw [decide_eq_true hc,b4r,ag9 h1 h2]
def amq (h:¬ (lcR n ps p m).2.2.2 = 0):lsB n ps p m = false:=by
 rw [gl] at h;unfold lsB;rw [decide_eq_false h];rfl
def at5:(bif decide ((lcR n ps p m).2.2.2 = 0) then ((lcR n ps p m).2.2.1.2.any fun r=>decide (r = c7 n)) else false) = lsB n ps p m:=by
 by_cases h:(lcR n ps p m).2.2.2 = 0
 · rw [decide_eq_true h,cond_true,alv h]
 rw [decide_eq_false h,cond_false,amq h]
def aze (h:lcR n ps p m = lcR n ps p m) (h2:(lcR n ps p m).2.2.2 = 0):0 <= n /\ n <= 8:=by
 rw [gl] at h2;obtain ⟨h1,_⟩:=zd h2;exact ⟨(qa h1).1,(qa h1).2.1⟩
def ao0:∀ {sts:List St} {l:List Rw} {i:Nat},TrZ n p m lend l sts -> i <= sts.length -> TrZ n p m lend ((trL n p m l sts).getD i default) (sts.drop i)
 | [],l,0,h,_=>h
 | s :: r,l,0,h,_=>h
 | s :: r,l,i + 1,h,hi=>by
  obtain ⟨_,_,l',e,_,h⟩:=h;unfold trL;rw [e];exact ao0 (i:=i) h (by simpa using hi)
def aej:∀ {sts:List St} {l:List Rw} {i:Nat},i < sts.length -> (trL n p m l sts).getD (i + 1) default = (c8 n ((trL n p m l sts).getD i default) p m (sts.getD i default)).2.1
 | [],l,i,hi=>by simp at hi
 | s :: r,l,0,_=>by
  unfold trL
  cases r with
  | nil=>rfl
  | cons s2 r2=>rfl
 | s :: r,l,i + 1,hi=>by
  unfold trL;exact aej (sts:=r) (i:=i) (by simpa using hi)
section
variable {sts:List St}
def aqh:(trL n p m l sts).getD 0 default = l:=by cases sts <;> rfl
def u0 (n:Int) (p m:List Fd) (l:List Rw) (sts:List St):List (Int × List Rw):=(trL n p m l sts).map fun t=>(n,t)
def aaj:(u0 n p m l sts).length = sts.length + 1:=by unfold u0;rw [b3g,a6l]
def a6a {i:Nat} (hi:i <= sts.length):(u0 n p m l sts).getD i default = (n,(trL n p m l sts).getD i default):=by
 unfold u0;have:i < (trL n p m l sts).length:=by rw [a6l];omega
 rw [b2r,b35,b2q this,b2r,b2q this];rfl
def rcR (n:Int) (ps:List AS) (p m:List Fd):List St × List (Int × List Rw) × Int :=
 if lsC n ps p m = 0 then ((lsT n ps p m).1,u0 n p m (aw (au n ps)) (lsT n ps p m).1,0) else ([],[],lsC n ps p m)
def aot (h:lsC n ps p m = 0):rcR n ps p m = ((lsT n ps p m).1,u0 n p m (aw (au n ps)) (lsT n ps p m).1,0):=if_pos h
def aim (h:lvE n ps = 0) (hb:cg n p m = 0) (hc:(lsT n ps p m).2.2 = 0):∃ sts lend,lsT n ps p m = (sts,(n,lend),0) /\ TrZ n p m lend (aw (au n ps)) sts /\ tok n lend = true /\ ((∃ t,t ∈ trL n p m (aw (au n ps)) sts /\ c7 n ∈ t) <-> c7 n ∈ lend):=by
 rcases za (qa h).2.2.1 hb with ⟨e,_⟩ | ⟨sts,lend,e,h1,h2,h3,h4⟩
 · unfold lsT at hc
   rw [e] at hc;exact absurd hc b5x
 exact ⟨sts,lend,e,h2,h3,h4⟩
def ajl {p m:List Fd}:∀ (F:Nat) (n:Int) (l:List Rw) (acc:List St),(f3 F n l p m acc).1.length <= acc.length + F:=by
 intro F
 induction F with
 | zero=>intro n l acc;unfold f3;simp
 | succ F ih =>
  intro n l acc;unfold f3;split
  · simp
  rename_i s _;split;rename_i n' l' e _;split
  · have:=ih n' l' (acc ++ [s])
    simp only [b36,b4b] at this;omega
  simp
def apx (h:lvE n ps = 0) (hb:cg n p m = 0):(lsT n ps p m).1.length <= FU:=by
 obtain ⟨h0,h8,h64,_⟩:=qa h;have hT:=a3y (ps:=ps) h0 b5s h64;have hck:ckE n (aw (au n ps)) p m = 0:=(if_pos hT).trans hb;unfold lsT;rw [xy hck];have:=ajl (p:=p) (m:=m) FU n (aw (au n ps)) [];simpa using this
def l5 (n:Int) (t:List Rw):Bool:=t.any fun r=>decide (r = c7 n)
def prX (n:Int) (ps:List AS) (p m:List Fd):Int:=idx (fun a:Int × List Rw=>l5 n a.2) (rcR n ps p m).2.1
def prC (n:Int) (ps:List AS) (p m:List Fd):Int:=if (rcR n ps p m).2.2 = 0 then (if prX n ps p m < 0 then 11 else 0) else (rcR n ps p m).2.2
def prS (n:Int) (ps:List AS) (p m:List Fd):List St:=if (rcR n ps p m).2.2 = 0 then (if prX n ps p m < 0 then [] else (rcR n ps p m).1.take (prX n ps p m).toNat) else []
def a9j:(rcR n ps p m).2.2 = lsC n ps p m:=by
 unfold rcR;split
 · rename_i h;exact h.symm
 rfl
end
end
end
section
open Go.Proofs
def awk {n:Int} {ps:List AS} {p m:List Fd} (h:lvE n ps = 0) (hb:cg n p m = 0) (hc:(lsT n ps p m).2.2 = 0):TrZ n p m (lsT n ps p m).2.1.2 (aw (au n ps)) (lsT n ps p m).1:=by
 obtain ⟨sts,lend,e,htr,_⟩:=aim h hb hc;rw [e];exact htr
def akm {n:Nat} {l:List St} {i:Nat} {cl:Bool} (hn:n = (l.take i).length) {f:Nat -> Nat -> PV} (hf:∀ a j,f a j = lf St.c l a j):CoP (.sl n 4 cl f) (stl (l.take i)):=by
 refine CoP.sl hn.symm (.inl rfl) (fun h=>by cases h) fun a j ha hj=>CoP.of_eq ?_;rw [hf];show St.c (l.getD a default) j = St.c ((l.take i).getD a default) j;have:a < i:=by rw [hn,b33] at ha;omega
 rw [b2r,b2r,b3p,if_pos this]
def aeg (n:Int) (ps:List AS) (h:lvE n ps = 0):a8 b6g 53 [pI n,pP (asl ps)] (ab [pT n (aw (au n ps)),pI 0]):=by
 have:=aw3 n ps;rw [amh h] at this;exact this
def are (n:Int) (ps:List AS) (p m:List Fd):a8 b6g 86 [pT n (aw (au n ps)),pP (fdl p),pP (fdl m)] (ab [pP (stl (lsT n ps p m).1),pT (lsT n ps p m).2.1.1 (lsT n ps p m).2.1.2,pI (lsT n ps p m).2.2]) :=
 aue FU n (aw (au n ps)) p m (fun h=>ak8 h) b5x
def awu {n:Int} {p m:List Fd} {l lend:List Rw} {sts:List St} {i:Nat} (hi:i < sts.length) (h:TrZ n p m lend l (sts.drop i)):tok n l = true /\ uy l p m (sts.getD i default) /\ c8 n l p m (sts.getD i default) = (n,(c8 n l p m (sts.getD i default)).2.1,0):=by
 have e:sts.drop i = sts.getD i default :: sts.drop (i + 1):=by
  rw [b4k hi,b2r,b2q hi];rfl
 rw [e] at h;obtain ⟨h1,h2,l',h3,h4,h5⟩:=h;rw [h3];exact ⟨h1,h2,rfl⟩
end
section
open Go.Proofs
def auv (ps:List AS):a8 b6g 44 [pP (asl ps)] (ab [pA (orL ps)]):=by
 refine hpx (nt:=17) Tryz.func44 ?_;refine dq ?_;refine ci 0 rfl fun hn=>?_;refine w_6 ?_;refine cj (ka 6 (ka 7 kn)) km (fun i=>⟨[(3,some (vA (orL (ps.take i)))),(8,some (vI i))],[]⟩) ps.length ⟨⟨⟨_,rfl,(CoR.refl _)⟩,tt⟩,trivial⟩ ?_;rintro i hi;refine w_5 ?_;refine hcd (fun h0=>?_) (fun h0=>?_)
 · refine yp ?_;exact lpx (i + 1) ⟨⟨⟨_,rfl,(a8u (by rw [bOr,aaw b5s];rfl))⟩,tt⟩,trivial⟩
 obtain rfl:i = ps.length:=by omega
 refine v_6 ?_;exact ⟨cci (by rw [b3k]),trivial⟩
def a94:goodFn b6g 12:=wgx Tryz.func12
def b61 {p:Prop} (h:p:=by (repeat' apply And.intro) <;> first | trivial | exact b2u rfl | rfl):p:=h
def a63 (n:Int) (ps:List AS):a8 b6g 12 [pI n,pP (asl ps)] (ab [pI (lvE n ps)]):=by
 refine hpx (nt:=28) Tryz.func12 ?_;refine fl ?_;refine ae rfl rfl (fun r0=>?_) (fun r0=>?_)
 ·
  have h0:=tz1 r0;(iterate 2 refine k9 (gtf r0) ?_);refine w_8 ?_
  exact hx8 rfl rfl rfl (⟨cci (ao3 b5s).symm,trivial⟩)
 have h0:=tz2 r0;(iterate 2 refine qy ?_ (hg:=(gff r0)));refine w_3 ?_;refine am _ rfl (fun r1=>?_) (fun r1=>?_)
 · have h1:=tz1 (ar r0 r1);refine v_4 ?_;exact ⟨cci (ao3 b5s).symm,trivial⟩
 have h1:=tz2 (ar r0 r1);have hz0:0 <= n:=by omega
 have hz1:n <= 16:=by omega
 refine w_7 ?_;refine hcd (fun h2=>?_) (fun h2=>?_)
 · refine v_4 ?_;exact ⟨cci (ay5 b5s b5s).symm,trivial⟩
 refine w_6 ?_;refine ae rfl rfl (fun r3=>?_) (fun r3=>?_)
 ·
  have h3:=tz1 r3;(iterate 6 refine k9 (gtf r3) ?_);refine w_9 ?_
  exact hx8 rfl rfl rfl (⟨cci (aoy b5s b5s (by first | exact .inl b5s | exact .inr (fun e=>absurd (show asI (orL ps) = IntKind.wrap .u32 (1 * 2 ^ (min n.toNat 32)) - 1 by rw [a05 hz0 hz1,e]) b5t))).symm,trivial⟩)
 have h3:=tz2 r3;refine qy ?_ (hg:=(gff r3));refine qcx (wgx Tryz.func44) (auv ps) ?_ (hg:=(gff r3));(iterate 2 refine qy ?_ (hg:=(gff r3)));refine rq rfl rfl rfl rfl (gff r3) ?_ (hp:=⟨ans hz0 hz1,ahn hz0 hz1⟩);refine qy ?_ (hg:=(gff r3));refine w_4 ?_;refine am _ rfl (fun r4=>?_) (fun r4=>?_)
 · have h4:=tz2 (ez (ar r3 r4));refine v_4 ?_;exact ⟨cci (aoy b5s b5s (by first | exact .inl b5s | exact .inr (fun e=>absurd (show asI (orL ps) = IntKind.wrap .u32 (1 * 2 ^ (min n.toNat 32)) - 1 by rw [a05 hz0 hz1,e]) b5t))).symm,trivial⟩
 have h4:=tz1 (f0 (ar r3 r4));refine w_6 ?_;refine ⟨.inr rfl, ?_⟩
 exact ⟨_,_,_,_,rfl,b61,rfl,b61,⟨cci (aos b5s b5s (fun e=>by
  rcases e with e | e
  · omega
  exact e (s3.1 ((by assumption:asI (orL ps) = IntKind.wrap .u32 (1 * 2 ^ (min n.toNat 32)) - 1).trans (a05 hz0 hz1))))).symm,trivial⟩⟩
def abe:goodFn b6g 45:=wgx Tryz.func45
def a6k (n:Int) (ps:List AS) (p m:List Fd):a8 b6g 45 [pI n,pP (asl ps),pP (fdl p),pP (fdl m)] (ab [pT (lcR n ps p m).1.1 (lcR n ps p m).1.2,pP (stl (lcR n ps p m).2.1),pT (lcR n ps p m).2.2.1.1 (lcR n ps p m).2.2.1.2,pI (lcR n ps p m).2.2.2]):=by
 refine hpx (nt:=58) Tryz.func45 ?_;refine sx7 ?_;refine m9 0 ?_;refine qy ?_;refine m9 1 ?_;refine w_7 ?_;refine qcx a94 (a63 n ps) ?_;refine w_7 ?_;refine hcn (fun h0=>?_) (fun h0=>?_)
 · refine dq ?_;refine hrr ?_;have he:=ax0 (p:=p) (m:=m) (by assumption:¬ lvE n ps = 0);exact f9 rfl rfl (by rw [he];exact ⟨CoC.agg ⟨CoP.refl _,ce,trivial⟩,CoC.one (CoP.sl rfl (.inr rfl) (fun _=>rfl) (fun i j hi _=>absurd hi (b2y i))),CoC.agg ⟨CoP.refl _,ce,trivial⟩,CoC.refl _,trivial⟩)
 have hv:lvE n ps = 0:=by assumption
 refine w_7 ?_;refine qcx abp (a65 n p m) ?_;refine w_7 ?_;refine hcn (fun h1=>?_) (fun h1=>?_)
 · refine dq ?_;refine hrr ?_;have he:=ayb hv (by assumption:¬ cg n p m = 0);exact f9 rfl rfl (by rw [he];exact ⟨CoC.agg ⟨CoP.refl _,ce,trivial⟩,CoC.one (CoP.sl rfl (.inr rfl) (fun _=>rfl) (fun i j hi _=>absurd hi (b2y i))),CoC.agg ⟨CoP.refl _,ce,trivial⟩,CoC.refl _,trivial⟩)
 have hb:cg n p m = 0:=by assumption
 refine w_5 ?_;refine qcx (wgx Tryz.func53) (aeg n ps hv) ?_;refine w_3 ?_;refine m9 2 ?_;refine tk ?_;refine qcx (wgx Tryz.func86) (are n ps p m) ?_;refine w_4 ?_;refine m9 3 ?_;refine tk ?_;refine hrr ?_;have he:=ag9 hv hb;exact f9 rfl rfl (by rw [he];exact CoL.refl _)
def a4d:goodFn b6g 47:=wgx Tryz.func47
def a12 (n:Int) (h0:0 <= n) (h1:n <= 16):a8 b6g 47 [pI n] (ab [pZ (c7 n)]):=by
 refine hpx (nt:=18) Tryz.func47 ?_;refine w_7 ?_;refine m9 0 ?_;refine dq ?_;refine cj (ka 3 (ka 8 kn)) km (fun k=>⟨[(9,some (vI k))],[(0,some (.arr true 1 3 n.toNat (lf zC (stT n 0 (iz 32) k))))]⟩) n.toNat ⟨tt,⟨⟨_,rfl,(a9q rfl (fun _=>rfl))⟩,trivial⟩⟩ ?_;rintro k hk;refine w_5 ?_;refine hcd (fun h0=>?_) (fun h0=>?_)
 · refine yp ?_;exact lpx (k + 1) ⟨tt,⟨⟨_,rfl,(aum (aj7 b5s) rfl b5s)⟩,trivial⟩⟩
 refine w_2 ?_;refine c3 3 rfl rfl rfl ?_;refine v_4 ?_;exact ⟨ahh h1 b5s,trivial⟩
def ate (n:Int) (ps:List AS) (p m:List Fd):a8 b6g 17 [pI n,pP (asl ps),pP (fdl p),pP (fdl m)] (ab [pB (lsB n ps p m),pI (lsC n ps p m)]):=by
 refine hpx (nt:=33) Tryz.func17 ?_;refine fl ?_;refine qcx abe (a6k n ps p m) ?_;refine w_5 ?_;refine m9 0 ?_;refine m9 1 ?_;refine dq ?_;refine ae rfl rfl (fun r0=>?_) (fun r0=>?_)
 ·
  have h0:=tz1 r0;have hz:=aze (n:=n) (ps:=ps) (p:=p) (m:=m) rfl h0;(iterate 2 refine qy ?_ (hg:=(gtt r0)));refine qcx a4d (a12 n hz.1 b5s) ?_ (hg:=(gtt r0));refine qcx zq (a4y (lcR n ps p m).2.2.1.1 (lcR n ps p m).2.2.1.2 (c7 n)) ?_ (hg:=(gtt r0));refine w_6 ?_
  exact hx8 rfl rfl rfl (⟨ccb (by first | exact at5 | exact alv (n:=n) (ps:=ps) (p:=p) (m:=m) b5t | exact (amq (n:=n) (ps:=ps) (p:=p) (m:=m) b5t).symm),cci gl,trivial⟩)
 have h0:=tz2 r0;(iterate 4 refine k9 (gft r0) ?_);refine w_6 ?_
 exact hx8 rfl rfl rfl (⟨ccb (by first | exact at5 | exact alv (n:=n) (ps:=ps) (p:=p) (m:=m) b5t | exact (amq (n:=n) (ps:=ps) (p:=p) (m:=m) b5t).symm),cci gl,trivial⟩)
end
section
inductive Lf (l:List Fd):AS -> AS -> Prop
 | leaf {s:AS}:re l s = false -> Lf l s s
 | left {s q:AS}:re l s = true -> Lf l (spA l s) q -> Lf l s q
 | right {s q:AS}:re l s = true -> Lf l (spB l s) q -> Lf l s q
def att (l:List Fd):Nat -> AS -> List AS
 | 0,s=>[s]
 | k + 1,s=>if re l s = true then att l k (spA l s) ++ att l k (spB l s) else [s]
def a0g {s:Nat} {f:Nat -> Nat -> PV}:CoC (.one (.sl 0 s true f)) (pP (fdl [])):=CoC.one (CoP.sl rfl (.inr rfl) (fun h=>by cases h) fun i j hi _=>absurd hi (b2y i))
end
section
open Go.Proofs
def u8A (b:BitVec 8):AS:=b.setWidth 32
abbrev u8C:BitVec 8 -> Nat -> PV:=fun b _=>.raw (.int .u8 (b.toNat:Int))
end
section
open Go.Proofs Go.Proofs.YteklilhbjjofbaaGreatDoor
open Go.RowKit Go.ChangeShapes Go.WideShapes Go.ChangeAt
def rd5:Rd b6g 5 1 u8C:=(aom Tryz.underlying5).co (fun u=>u.toBitVec) fun a j hj=>CoP.refl _
def azk:RdB b6g 31 1 (acg 1 u8C) fun b l=>l.length <= b :=
 (zj (B:=fun _ _=>True) (fun _ _ _ _ _=>trivial) Tryz.underlying31 b67 b5s rd5.toB).co id (fun b a h=>h.1) fun a j hj=>CoP.refl _
end
section
section
variable {b:AS}
def abd {a:AS} (h:∀ i,i < 32 -> a.getLsbD i = b.getLsbD i):a = b:=b48 h
def aut {s:AS} (h:s ≠ 0):∃ i,i < 32 /\ s.getLsbD i = true:=by
 apply Classical.byContradiction;intro hn;refine h (abd fun i hi=>?_)
 cases hs:s.getLsbD i with
 | false=>simp
 | true=>exact absurd ⟨i,hi,hs⟩ hn
def auy {s:AS} {i:Nat} (h:s.getLsbD i = true):i < 32:=BitVec.lt_of_getLsbD h
def mz {s t:AS} {i:Nat} (hi:i < 32):(s &&& ~~~t).getLsbD i = (s.getLsbD i && !t.getLsbD i):=by simp [hi]
def auu (a:Nat):AS:=1#32 <<< a
def sy (m:Fd) (b:AS):Bool:=decide (b &&& m.lhs = 0) && (decide (b &&& m.rhs ≠ 0) && decide (b &&& ~~~m.rhs ≠ 0))
def hdB (m:Fd) (b:AS):AS:=if sy m b = true then b &&& m.rhs else b
def tlB (m:Fd) (b:AS):List AS:=if sy m b = true then [b &&& ~~~m.rhs] else []
def stB (m:Fd) (l:List AS) (i:Nat):List AS:=(l.take i).map (hdB m) ++ l.drop i ++ (l.take i).flatMap (tlB m)
def rdB (m:Fd) (l:List AS):List AS:=l.map (hdB m) ++ l.flatMap (tlB m)
def aw2 (ms:List Fd) (l:List AS):List AS:=ms.foldl (fun l m=>rdB m l) l
def at7:List Fd -> List AS -> Bool
 | [],_=>false
 | m :: ms,l=>l.any (sy m) || at7 ms (rdB m l)
def alf (ms:List Fd):Nat -> List AS -> List AS
 | 0,l=>l
 | f + 1,l=>if at7 ms l = true then alf ms f (aw2 ms l) else aw2 ms l
def muB:List AS -> Nat
 | []=>0
 | b :: l=>b.toNat * b.toNat + muB l
def ani {m:Fd}:sy m b = true <-> b &&& m.lhs = 0 /\ b &&& m.rhs ≠ 0 /\ b &&& ~~~m.rhs ≠ 0:=by simp [sy]
structure Blk (ms:List Fd) (rest:AS) (bs:List AS):Prop where
 nz:∀ b ∈ bs,b ≠ 0
 cnt:∀ a,a < 32 -> bs.countP (fun b=>b.getLsbD a) = if rest.getLsbD a = true then 1 else 0
 ind:∀ G:AS -> Prop,G rest -> (∀ m ∈ ms,∀ b,G b -> sy m b = true -> G (b &&& m.rhs) /\ G (b &&& ~~~m.rhs)) -> ∀ b ∈ bs,G b
variable {bs:List AS} {ms:List Fd} {rest:AS}
theorem Blk.rd (h:Blk ms rest bs) {m:Fd} (hm:m ∈ ms):Blk ms rest (rdB m bs):=by
 have hmem:∀ {b:AS},b ∈ rdB m bs -> ∃ b0 ∈ bs,(sy m b0 = false /\ b = b0) \/ (sy m b0 = true /\ (b = b0 &&& m.rhs \/ b = b0 &&& ~~~m.rhs)):=by
  intro b hb;unfold rdB at hb
  rcases b3f.1 hb with hb | hb
  · obtain ⟨b0,h0,rfl⟩:=b3a.1 hb
    refine ⟨b0,h0, ?_⟩;cases hs:sy m b0 <;> simp [hdB,hs]
  obtain ⟨b0,h0,hb⟩:=List.mem_flatMap.1 hb;refine ⟨b0,h0, ?_⟩;cases hs:sy m b0
  · simp [tlB,hs] at hb
  simp [tlB,hs] at hb;exact .inr ⟨rfl, .inr hb⟩
 refine ⟨fun b hb=>?_,fun a ha=>?_,fun G h0 hG b hb=>?_⟩
 · obtain ⟨b0,h0,⟨_,rfl⟩ | ⟨hs,hb⟩⟩:=hmem hb
   · exact h.nz _ h0
   obtain ⟨_,h2,h3⟩:=ani.1 hs
   rcases hb with rfl | rfl
   · exact h2
   exact h3
 · rw [<- h.cnt a ha]
   have:∀ l:List AS,(l.map (hdB m)).countP (fun b=>b.getLsbD a) + (l.flatMap (tlB m)).countP (fun b=>b.getLsbD a) = l.countP (fun b=>b.getLsbD a):=by
    intro l
    induction l with
    | nil=>rfl
    | cons b l ih =>
     rw [b4c,b5c,List.countP_append,b4z,b4z,<- ih];cases hs:sy m b
     · simp [hdB,tlB,hs];omega
     simp only [hdB,tlB,hs,if_true,b4z,List.countP_nil,mz ha,b3w];cases b.getLsbD a <;> cases m.rhs.getLsbD a <;> simp <;> omega
   unfold rdB;rw [List.countP_append];exact this bs
 obtain ⟨b0,h1,⟨_,rfl⟩ | ⟨hs,hb⟩⟩:=hmem hb
 · exact h.ind G h0 hG _ h1
 obtain ⟨g1,g2⟩:=hG m hm b0 (h.ind G h0 hG _ h1) hs
 rcases hb with rfl | rfl
 · exact g1
 exact g2
def ab8 (rest:AS):List AS:=if rest = 0 then [] else [rest]
theorem Blk.start (ms:List Fd) (rest:AS):Blk ms rest (ab8 rest):=by
 unfold ab8;by_cases h:rest = 0
 · subst h
   simp only [if_true];exact ⟨fun _ h=>by (cases h),fun a ha=>by simp,fun _ _ _ _ h=>by cases h⟩
 rw [if_neg h];exact ⟨fun b hb=>by (simp at hb;subst hb;exact h),fun a ha=>by simp [b4z],fun G h0 _ b hb=>by (simp at hb;subst hb;exact h0)⟩
def blks (ms:List Fd) (rest:AS):List AS:=alf ms 18446744073709551616 (ab8 rest)
def agj {p:AS -> Bool} {l:List AS} (h:l.countP p <= 1) {a:AS} (ha:a ∈ l) (hb:b ∈ l) (pa:p a = true) (pb:p b = true):a = b:=by
 rw [List.countP_eq_length_filter] at h;have h1:a ∈ l.filter p:=b4x.2 ⟨ha,pa⟩;have h2:b ∈ l.filter p:=b4x.2 ⟨hb,pb⟩
 cases hl:l.filter p with
 | nil=>rw [hl] at h1;cases h1
 | cons x r =>
  rw [hl] at h h1 h2
  cases r with
  | nil=>simp at h1 h2;rw [h1,h2]
  | cons=>simp at h
theorem Blk.one (h:Blk ms rest bs) {b':AS} (hb:b ∈ bs) (hb':b' ∈ bs) {a:Nat} (h1:b.getLsbD a = true) (h2:b'.getLsbD a = true):b = b':=by
 refine agj (p:=fun b=>b.getLsbD a) ?_ hb hb' h1 h2;rw [h.cnt a (auy h1)];split <;> omega
theorem Blk.sub (h:Blk ms rest bs) (hb:b ∈ bs):Go.Hx.sub b rest:=bu.2 fun a ha hba=>by
 have h1:=h.cnt a ha;have h2:0 < bs.countP (fun b=>b.getLsbD a):=List.countP_pos_iff.2 ⟨b,hb,hba⟩
 cases hr:rest.getLsbD a with
 | true=>rfl
 | false=>rw [hr] at h1;simp only [b5i,if_false] at h1;omega
end
end
section
def sgl (f:Fd):List Fd:=(b9 f.rhs).map fun a=>⟨f.lhs,auu a⟩
def ay9 (fs ms:List Fd):List Fd:=ms ++ fs.flatMap sgl
def m8 (T:List AS) (r:AS):List AS:=if r ∈ T then T else T ++ [r]
def a2y {T:List AS} {r z:AS}:z ∈ m8 T r <-> z ∈ T \/ z = r:=by
 unfold m8;split
 · rename_i h
   constructor
   · exact .inl
   rintro (h2 | rfl)
   · exact h2
   exact h
 simp
def rj {T:List AS} {r:AS} (h:T.Nodup):(m8 T r).Nodup:=by
 unfold m8;split
 · exact h
 rename_i hr;rw [List.nodup_append];exact ⟨h,by simp,fun a ha b hb=>by simp at hb;subst hb;rintro rfl;exact hr ha⟩
def a3m (s:AS) (o:List AS) (T:List AS):List AS:=T.foldl (fun o r=>m8 o (r &&& ~~~s)) o
def n9 (T:List AS) (s:AS):List AS:=a3m s [] T
def a2g {s:AS}:∀ {T o:List AS},(o.Nodup -> (a3m s o T).Nodup) /\ ∀ z,z ∈ a3m s o T <-> z ∈ o \/ ∃ r ∈ T,z = r &&& ~~~s
 | [],o=>⟨fun h=>h,fun z=>by simp [a3m]⟩
 | r :: T,o=>by
  obtain ⟨h1,h2⟩:=a2g (s:=s) (T:=T) (o:=m8 o (r &&& ~~~s));refine ⟨fun h=>h1 (rj h),fun z=>?_⟩;show z ∈ a3m s (m8 o (r &&& ~~~s)) T <-> _;rw [h2 z,a2y];simp only [b2z];constructor
  · rintro ((h | h) | ⟨q,hq,h⟩)
    · exact .inl h
    · exact .inr ⟨r, .inl rfl,h⟩
    exact .inr ⟨q, .inr hq,h⟩
  rintro (h | ⟨q,rfl | hq,h⟩)
  · exact .inl (.inl h)
  · exact .inl (.inr h)
  exact .inr ⟨q,hq,h⟩
def a33 {T:List AS} {s z:AS}:z ∈ n9 T s <-> ∃ r ∈ T,z = r &&& ~~~s:=by
 have:=(a2g (s:=s) (T:=T) (o:=[])).2 z;simpa [n9] using this
def a3i (T:List AS) (s:AS):(n9 T s).Nodup:=(a2g (s:=s) (T:=T) (o:=[])).1 List.nodup_nil
def vd (d:Fd) (r k:AS):AS:=(r &&& (d.lhs ||| d.rhs)) ||| (k &&& ~~~(d.lhs ||| d.rhs))
def agB (d:Fd) (r k:AS):Bool:=decide ((r ^^^ k) &&& d.lhs = 0)
def anp {d:Fd} {r k:AS} {i:Nat} (hi:i < 32):(vd d r k).getLsbD i = (if d.lhs.getLsbD i || d.rhs.getLsbD i then r.getLsbD i else k.getLsbD i):=by
 unfold vd;rw [b4l,mz hi,b3w,b4l];cases d.lhs.getLsbD i <;> cases d.rhs.getLsbD i <;> simp
structure ax7 (fs ms:List Fd) (T:List AS):Prop where
 fd:∀ d ∈ fs,∀ r ∈ T,∀ k ∈ T,agB d r k = true -> (r ^^^ k) &&& d.rhs = 0
 mv:∀ d ∈ ms,∀ r ∈ T,∀ k ∈ T,agB d r k = true -> vd d r k ∈ T
def aya (fs:List Fd) (bs:List AS) (a:Nat):Prop:=auu a ∈ bs /\ ∃ f ∈ fs,f.rhs.getLsbD a = true /\ f.lhs.getLsbD a = false
structure JT (fs:List Fd) (bs:List AS) (rest:AS) (T:List AS):Prop where
 z:(0:AS) ∈ T
 r:∀ r ∈ T,sub r rest /\ ∀ b ∈ bs,b &&& r = 0 \/ sub b r
 top:∃ L ∈ T,(∀ r ∈ T,sub r L) /\ ∀ a,a < 32 -> rest.getLsbD a = true -> L.getLsbD a = false -> aya fs bs a
section
variable {fs ms:List Fd} {bs:List AS} {rest:AS} {T:List AS}
def b0g (T:List AS) (b:AS):Prop:=∀ r ∈ T,∀ k ∈ T,((r &&& b) ||| (k &&& ~~~b)) ∈ T
structure b1f (fs ms:List Fd) (bs:List AS) (rest:AS) (T:List AS):Prop where
 j:JT fs bs rest T
 c:ax7 fs ms T
def qB (T:List AS) (L x rest y:AS):Prop:=y ≠ 0 /\ sub y rest /\ (L &&& ~~~(x ||| y)) ∈ T
end
end
section
def awc:List AS -> Nat
 | []=>0
 | b :: l=>b.toNat + awc l
def OkB (l:List AS):Prop:=awc l < 4294967296 /\ ∀ b ∈ l,b ≠ 0
def b2k (l:List AS) (i:Nat):Nat -> Nat -> PV:=fun k c=>if k < i then .any else sC (l.getD k default) c
structure BkI (ms:List Fd) (R:List AS) (x:Nat × List AS × Bool):Prop where
 ok:OkB x.2.1
 t:x.2.2 = true -> alf ms x.1 x.2.1 = R /\ muB x.2.1 < x.1
 f:x.2.2 = false -> x.2.1 = R
def ckB (n:Int) (l m:List Fd) (s:AS):Int:=if cg n l m = 0 then (if s >>> n.toNat = 0 then 0 else 1) else cg n l m
def b1w (fs ms:List Fd) (i k:Nat):List Fd:=ms ++ (fs.take i).flatMap sgl ++ (sgl (fs.getD i default)).take k
end
section
open Go.Proofs
def b1h (x:Nat × List AS × Bool):Nat:=x.1 + (bif x.2.2 then 1 else 0)
end
section
def ayq (b:AS) (f:Fd):Bool:=!decide ((f.rhs &&& ~~~f.lhs) &&& b = 0)
def apv (l:List Fd) (o b:AS):AS:=if bsz b = 1 then (if l.any (ayq b) = true then o ||| b else o) else o
def aye (l:List Fd) (o:AS) (bs:List AS):AS:=bs.foldl (apv l) o
section
variable {l:List Fd} {o:AS} {bs:List AS} {i:Nat}
end
def amd (n:Int) (l m:List Fd) (x:AS):List AS:=ord (blks (ay9 l m) (ai n &&& ~~~x))
def b25 (n:Int) (l m:List Fd) (x:AS):List AS:=if ckB n l m x = 0 then amd n l m x else []
def aud (n:Int) (l m:List Fd) (x:AS):AS:=aye l x (amd n l m x)
def b2i (n:Int) (l m:List Fd) (x:AS):AS:=if ckB n l m x = 0 then aud n l m x else 0
def ayh (p:AS) (bs:List AS):List AS:=(bs.filter fun b=>!decide (b &&& p = 0)).map fun b=>b &&& p
def akj (n:Int) (l m:List Fd) (x p:AS):List AS:=ord (ayh p (amd n l m x))
def ck4 (n:Int) (l m:List Fd) (s:AS):Int:=if n < 0 \/ 8 < n then 7 else ckB n l m s
def b1i (n:Int) (l m:List Fd) (x p:AS):List AS:=if ck4 n l m (x ||| p) = 0 then akj n l m x p else []
def azu (n:Int) (l m:List Fd) (p x:AS):Option Fd:=if p &&& ~~~(aud n l m x) = 0 then none else if 1 < (akj n l m x p).length then some ⟨x,(akj n l m x p).getD 0 default⟩ else none
def ala (n:Int) (l m:List Fd) (p:AS):Option Fd:=(a8m p).findSome? (azu n l m p)
def alc:Option Fd -> Fd × Bool
 | some v=>(v,true)
 | none=>(⟨0,0⟩,false)
def azp (n:Int) (l m:List Fd) (p:AS):Fd × Bool:=if ck4 n l m p = 0 then alc (ala n l m p) else (⟨0,0⟩,false)
def a7z {α:Type} [Inhabited α] {l:List α} {i:Nat} (h:i < l.length):l.getD i default ∈ l:=by
 rw [b2r,b2q h];exact b31 h
def b13 (V:AS -> Option Fd):Prop:=∀ p v,V p = some v -> sub (v.lhs ||| v.rhs) p /\ v.lhs ||| v.rhs ≠ p /\ p &&& ~~~v.rhs ≠ p
section
variable {V:AS -> Option Fd}
def vF (V:AS -> Option Fd) (s:AS):Fd:=(alc (V s)).1
def vBo (V:AS -> Option Fd) (s:AS):Bool:=(alc (V s)).2
def asw (V:AS -> Option Fd) (s:AS):AS:=(vF V s).lhs ||| (vF V s).rhs
def au1 (V:AS -> Option Fd) (s:AS):AS:=s &&& ~~~(vF V s).rhs
def a9c (V:AS -> Option Fd):Nat -> List AS -> List AS -> List AS
 | 0,_,out=>out
 | n + 1,todo,out =>
  if todo.length = 0 then out
  else if vBo V (todo.getD (todo.length - 1) default) = true then a9c V n (todo.take (todo.length - 1) ++ [asw V (todo.getD (todo.length - 1) default),au1 V (todo.getD (todo.length - 1) default)]) out
  else a9c V n (todo.take (todo.length - 1)) (out ++ [todo.getD (todo.length - 1) default])
def b24 (V:AS -> Option Fd) (p0:AS) (x:Nat × List AS × List AS):Prop:=a9c V x.1 x.2.1 x.2.2 = a9c V 6562 [p0] [] /\ au3 x.2.1 < x.1 /\ x.2.2.length + x.1 <= 6562
def lvG (V:AS -> Option Fd):Nat -> AS -> List AS
 | 0,s=>[s]
 | n + 1,s=>if vBo V s = true then lvG V n (asw V s) ++ lvG V n (au1 V s) else [s]
end
def az1 (n:Int) (l m:List Fd):List AS:=a9c (ala n l m) 6562 [ai n] []
def b2m (n:Int) (l m:List Fd):List AS:=if ck4 n l m 0 = 0 then ac3 (az1 n l m) else []
end
section
open Go.Proofs
def is4 (n:Int) (l m:List Fd):Bool:=if ck4 n l m 0 = 0 then !(azp n l m (ai n)).2 else false
end
section
structure Mx where
 d:Dps
 m:List Dp
deriving Inhabited
def Mx.mv (x:Mx):List Fd:=x.m.map (Dp.fd x.d.num)
def Mx.c (x:Mx):Nat -> PV
 | 0=>x.d.c 0
 | 1=>x.d.c 1
 | 2=>dpl x.m
 | _=>.any
abbrev Mx.pc (x:Mx):PC:=.agg [x.c 0,x.c 1,x.c 2]
def Mx.ok (x:Mx):Bool:=decide (x.d.l.length <= 6) && decide (x.m.length <= 4)
def b23 (n:Int) (l m:List Fd) (ps:List AS):Int:=if ck4 n l m 0 = 0 then lsC n ps l m else ck4 n l m 0
def b20 (n:Int) (l m:List Fd) (ps:List AS):Bool:=if ck4 n l m 0 = 0 then (if lsC n ps l m = 0 then lsB n ps l m && ps.all (fun p=>!vBo (ala n l m) p) else false) else false
end
section
open Go.Proofs Go.Proofs.YteklilhbjjofbaaGreatDoor
open Go.RowKit Go.ChangeShapes Go.WideShapes Go.ChangeAt
def s2C (x:AS × AS):Nat -> PV
 | 0=>asC x.1
 | 1=>asC x.2
 | _=>.any
end
section
structure Rcp where
 n:BitVec 8
 f:List Dp
 m:List Dp
 p:List (BitVec 8)
deriving Inhabited
def Rcp.num (d:Rcp) (k:Nat):Int:=1 + ((d.n.toNat % k:Nat):Int)
abbrev Rcp.pc (d:Rcp):PC:=.agg [.raw (.int .u8 (d.n.toNat:Int)),dpl d.f,dpl d.m,psl 1 u8C d.p]
def u8S (n:Int) (b:BitVec 8):AS:=b.setWidth 32 &&& ai n
def afd {a b c:Nat}:(bif bif decide ((a:Int) <= 4) then decide ((b:Int) <= 4) else false then decide ((c:Int) <= 3) else false) = decide (a <= 4 /\ b <= 4 /\ c <= 3):=by
 rw [b5h,decide_eq_true_iff];by_cases h1:(a:Int) <= 4
 · by_cases h2:(b:Int) <= 4
   · rw [decide_eq_true h1,decide_eq_true h2,cond_true,cond_true,decide_eq_true_iff];omega
   rw [decide_eq_true h1,decide_eq_false h2,cond_true,cond_false];exact ⟨(fun h=>by cases h),(fun h=>by omega)⟩
 rw [decide_eq_false h1,cond_false,cond_false];exact ⟨(fun h=>by cases h),(fun h=>by omega)⟩
end
section
open Go.Proofs
end
end Go.Hx

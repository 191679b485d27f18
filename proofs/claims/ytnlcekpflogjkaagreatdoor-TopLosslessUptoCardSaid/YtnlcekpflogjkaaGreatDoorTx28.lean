/- A part of the proof: Cc2 Cc3 Ls1 Cs24 Cs26 V25 Cs27 Cs28 Cs30 Cs31 Cs32 Cs33 Cs34 Cs35 V34 Cs36 Cz1m Cs37 Cs40 Cs42. -/
import Derived.Test.YtnlcekpflogjkaaGreatDoorTx27
set_option linter.all false
set_option maxRecDepth 100000
namespace Go.Hx
section
def blj:List (List Int) -> List Rw
 | []=>[[]]
 | c :: cs=>c.flatMap fun z=>(blj cs).map fun r=>z :: r
section
variable {N:Nat} {p m:List Fd} {l0 l:List Rw}
def auc {a b:Rw} {s:AS} {i:Nat} (h:i < b.length):(fp a b s).getD i default = if c8 s (i:Int) = true then a.getD i default else b.getD i default:=by
 unfold fp;rw [brc,brx,bsq h];rfl
def b65 (C:Nat -> List Int) (hd:∀ i j z,z ∈ C i -> z ∈ C j -> i = j):Mdl N p m (fun x y=>x = y \/ ∃ i,x ∈ C i /\ y ∈ C i) (fun r=>r.length = N /\ ∀ i,i < N -> r.getD i default ∈ C i) where
 refl _:=.inl rfl
 symm h:=by
  rcases h with h | ⟨i,h,k⟩
  · exact .inl h.symm
  exact .inr ⟨i,k,h⟩
 trans h h2:=by
  rcases h with h | ⟨i,h,k⟩
  · rw [h];exact h2
  rcases h2 with h2 | ⟨j,h2,k2⟩
  · rw [<- h2];exact .inr ⟨i,h,k⟩
  have:=hd i j _ k h2;subst this;exact .inr ⟨i,h,k2⟩
 len h:=h.1
 cong h e h2:=⟨e.trans h.1,fun i hi=>by
  have h3:=h.2 i hi
  rcases h2 i (by rw [h.1];exact hi) with h4 | ⟨j,h4,h5⟩
  · rw [<- h4];exact h3
  have:=hd i j _ h3 h4;subst this
  exact h5⟩
 fd _ a b ha hb _:=fun i hi _=>.inr ⟨i,ha.2 i (by rw [<- ha.1];exact hi),hb.2 i (by rw [<- ha.1];exact hi)⟩
 mv _ a b ha hb _:=⟨(mt _ _ _).trans hb.1,fun i hi=>by
  rw [auc (by rw [hb.1];exact hi)];split
  · exact ha.2 i hi
  exact hb.2 i hi⟩
def aw9:Mdl N p m (fun x y=>0 <= x <-> 0 <= y) (fun r=>r.length = N /\ ∀ i,i < r.length -> 0 <= r.getD i default) where
 refl _:=Iff.rfl
 symm h:=h.symm
 trans h h2:=h.trans h2
 len h:=h.1
 cong h e h2:=⟨e.trans h.1,fun i hi=>(h2 i bv9).1 (h.2 i bv9)⟩
 fd _ a b ha hb _:=fun i hi _=>⟨fun _=>hb.2 i (by rw [hb.1,<- ha.1];exact hi),fun _=>ha.2 i hi⟩
 mv _ a b ha hb _:=⟨(mt _ _ _).trans hb.1,fun i hi=>by
  rw [mt] at hi;rw [auc hi];split
  · exact ha.2 i (by rw [ha.1,<- hb.1];exact hi)
  exact hb.2 i hi⟩
def av6 (N:Nat) (p m:List Fd) (l0:List Rw):Prop:=∀ l,sd l -> (∀ r,r ∈ l -> LR N p m l0 r) -> l.length <= 256
end
section
variable {p m:List Fd} {l0 l:List Rw} {n:Int} {σ:Int -> Int}
def bhe (h0:tok n l0 = true) (hS:av6 n.toNat p m l0) (ho:sd l) (h:∀ r,r ∈ l -> LR n.toNat p m l0 r):tok n l = true:=by
 obtain ⟨h1,h2,_⟩:=pf h0;refine axb h1 h2 (hS l ho h) (fun r hr=>?_) ho;have h3:=h r hr _ _ aw9 fun r0 hr0=>⟨(rh h0 r0 hr0).1,fun i hi=>(rh h0 r0 hr0).2 _ (ey hi)⟩;refine ⟨h3.1,fun z hz=>?_⟩;obtain ⟨i,hi,rfl⟩:=vb hz;exact h3.2 i hi
def b6g {s:St} (h:(dp n l p m s).2.2 = 0):sd (dp n l p m s).2.1:=by
 unfold dp at *;split at h
 · rename_i e
   rw [if_pos e];unfold mvE vi at *;split at h
   · rename_i e2
     rw [if_pos e2];split at h
     · exact absurd h bvg
     rename_i e3;rw [if_neg e3];exact v6 _
   exact absurd h bvg
 rename_i e;rw [if_neg e];unfold fdE at *;split at h
 · rename_i e2
   rw [if_pos e2];exact v6 _
 exact absurd h bvg
theorem Ch.step (h0:tok n l0 = true) (hS:av6 n.toNat p m l0) (hp:p.all (inU n) = true) (hT:tok n l = true) (h:Ch n.toNat p m l0 l σ) {s:St} (hs:b4u l p m s) (he:(dp n l p m s).2.2 = 0) :
 ∃ l' σ',dp n l p m s = (n,l',0) /\ tok n l' = true /\ Ch n.toNat p m l0 l' σ':=by
 obtain ⟨h1,σ',h2⟩:=Ch.app (fun r hr=>(rh h0 r hr).1) hT hp h hs he;have h3:=bhe h0 hS (b6g he) h2.rows;refine ⟨_,σ', ?_,h3,h2⟩
 conv=>lhs;rw [<- Prod.eta (dp n l p m s),<- Prod.eta (dp n l p m s).2,h1,he]
def auq {s:St} (h:a2a l p m s):b4u l p m s:=by
 obtain ⟨h1,h2,h3⟩:=h;refine ⟨h1,h2,fun e=>?_,fun e=>?_⟩
 · rcases h3 with ⟨_,h,_⟩ | ⟨h,_⟩
   · exact h
   rw [e] at h;cases h
 rcases h3 with ⟨h,_⟩ | ⟨_,h,_⟩
 · rw [e] at h;cases h
 exact h
theorem Ch.code (h0:tok n l0 = true) (hS:av6 n.toNat p m l0) (hp:p.all (inU n) = true) (hT:tok n l = true) (h:Ch n.toNat p m l0 l σ) {s:St} (hs:a2a l p m s):(dp n l p m s).2.2 = 0:=by
 rcases ao4 hT hp hs with e | ⟨l',e,_⟩
 · obtain ⟨mu,i,a,b⟩:=s
   obtain ⟨ha,hb,hs | hs⟩:=hs
   · obtain ⟨h1,h2,h3⟩:=hs
     cases h1;have h4:dp n l p m (false,i,a,b) = fdE n l a b (p.getD i default):=rfl;have hg:=(ax5 hT (bs2.1 hp _ (ey h2)) ha hb h3).1;have hg:fdE n l a b (p.getD i default) = (n,fdL l a b (p.getD i default),0):=hg;rw [h4,hg] at e ⊢
   obtain ⟨h1,h2,h3⟩:=hs;cases h1;have h4:dp n l p m (true,i,a,b) = mvE n l a b (m.getD i default):=rfl;have h5:iw l (m.getD i default) a b = true:=h3;unfold iw at h5;rw [brk] at h5;have h6:mvE n l a b (m.getD i default) = vi n l (fp (l.getD a default) (l.getD b default) ((m.getD i default).lhs ||| (m.getD i default).rhs)):=if_pos h5.1;have hl0:∀ r,r ∈ l0 -> r.length = n.toNat:=fun r hr=>(rh h0 r hr).1
   have h7:=hS (bf (l ++ [fp (l.getD a default) (l.getD b default) ((m.getD i default).lhs ||| (m.getD i default).rhs)])) (v6 _) fun r hr=>by
    rcases brr.1 (i6.1 hr) with h8 | h8
    · exact h.rows r h8
    rw [bru.1 h8];exact (a8j hl0).mv (ey h2) (h.rows _ (ey ha)) (h.rows _ (ey hb)) (aw5 hl0 h5.1)
   rw [h4,h6];unfold vi;rw [if_neg bv9]
 rw [e]
def TrZ (n:Int) (p m:List Fd) (lend:List Rw):List Rw -> List St -> Prop
 | l,[]=>l = lend
 | l,s :: r=>tok n l = true /\ a2a l p m s /\ ∃ l',dp n l p m s = (n,l',0) /\ ¬ l' = l /\ TrZ n p m lend l' r
end
def stC (n:Int) (ps:List AS) (c:Nat):List Int:=if c < n.toNat then (List.range ps.length).map fun i=>stV n i (ps.getD i default) c else []
section
variable {n:Int} {ps:List AS} {p m:List Fd}
def b9o (h0:0 <= n) {i c:Nat} {q:AS} (hc:c < n.toNat):stV n i q c % n = (c:Int):=by
 unfold stV;split
 · exact Int.emod_eq_of_lt bv9 bv9
 have e:n + (i:Int) * n + (c:Int) = (c:Int) + n * (1 + (i:Int)):=by rw [Int.mul_add,Int.mul_one,Int.mul_comm (i:Int) n];omega
 rw [e,Int.add_mul_emod_self_left];exact Int.emod_eq_of_lt bv9 bv9
def agn (h0:0 <= n) {c:Nat} {z:Int} (h:z ∈ stC n ps c):c < n.toNat /\ z % n = (c:Int):=by
 unfold stC at h;split at h
 · rename_i hc
   obtain ⟨i,_,rfl⟩:=brp.1 h;exact ⟨hc,b9o h0 hc⟩
 simp at h
def bcm (h0:0 <= n):∀ i j z,z ∈ stC n ps i -> z ∈ stC n ps j -> i = j:=fun i j z h k=>by
 have h1:=(agn h0 h).2;have h2:=(agn h0 k).2;omega
def af5 {r:Rw} (hr:r ∈ ax n ps):r.length = n.toNat /\ ∀ i,i < n.toNat -> r.getD i default ∈ stC n ps i:=by
 unfold ax at hr;obtain ⟨k,hk,rfl⟩:=brp.1 hr;refine ⟨a8q _ _ _,fun i hi=>?_⟩;rw [ali hi];unfold stC;rw [if_pos hi];exact brp.2 ⟨k,hk,rfl⟩
end
end
section
section
variable {n:Int} {ps:List AS} {p m:List Fd} {l l0:List Rw} {σ:Int -> Int}
def bih {N:Nat} {l l':List Rw} (h:∀ r,r ∈ l <-> r ∈ l') {r:Rw}:LR N p m l r <-> LR N p m l' r :=
 ⟨fun k E R hm hl=>k E R hm fun r hr=>hl r ((h r).1 hr),fun k E R hm hl=>k E R hm fun r hr=>hl r ((h r).2 hr)⟩
def az4 (h0:0 <= n) {c:Nat} {z:Int} (h:z ∈ stC n ps c):z = (c:Int) \/ n <= z:=by
 unfold stC at h;split at h
 · obtain ⟨i,_,rfl⟩:=brp.1 h
   unfold stV;split
   · exact .inl rfl
   right;have:=Int.mul_nonneg (show (0:Int) <= (i:Int) by omega) h0;omega
 simp at h
theorem Ch.first (h0:0 <= n) (h:Ch n.toNat p m (bf (ax n ps)) l σ):(dg n).map σ = dg n:=by
 refine ahy fun z hz=>?_;unfold dg at hz;obtain ⟨c,hc,rfl⟩:=brp.1 hz;have hc:=brw.1 hc;have h1:=h.sym (c:Int) _ _ (b65 (stC n ps) (bcm h0)) fun r hr=>af5 (i6.1 hr)
 rcases h1 with h1 | ⟨i,h1,h2⟩
 · exact h1.symm
 have h3:=(agn h0 h1).2;have h4:=Int.emod_eq_of_lt (a:=(c:Int)) (b:=n) bv9 bv9;have h5:i = c:=by omega
 subst h5;have h6:=h.le (i:Int)
 rcases az4 h0 h2 with h7 | h7
 · exact h7
 omega
def a19 {r:Rw}:(l.any fun x=>decide (x = r)) = decide (r ∈ l):=by
 rw [buj,bsf,decide_eq_true_iff];constructor
 · rintro ⟨x,hx,e⟩
   rw [<- of_decide_eq_true e];exact hx
 intro h;exact ⟨r,h,decide_eq_true rfl⟩
def swI (n z:Int):Int:=if n <= z /\ z < 2 * n then z + n else if 2 * n <= z /\ z < 3 * n then z - n else z
abbrev bqm (n:Int) (x:Fd):Fd:=⟨x.lhs,aa n &&& ~~~(x.lhs ||| x.rhs)⟩
end
end
section
section
variable {n:Int} {p m:List Fd} {l0 l:List Rw} {σ:Int -> Int}
def b3s (hT:tok n l = true) (hp:p.all (inU n) = true) (hm:m = []) {s:St} (hs:a2a l p m s):(dp n l p m s).2.2 = 0:=by
 obtain ⟨mu,i,a,b⟩:=s;obtain ⟨ha,hb,hs | hs⟩:=hs
 · obtain ⟨h1,h2,h3⟩:=hs
   cases h1;have h4:dp n l p m (false,i,a,b) = fdE n l a b (p.getD i default):=rfl;have hg:fdE n l a b (p.getD i default) = (n,fdL l a b (p.getD i default),0):=(ax5 hT (bs2.1 hp _ (ey h2)) ha hb h3).1;rw [h4,hg]
 obtain ⟨_,h2,_⟩:=hs;subst hm;exact absurd h2 (brg _)
def az8 (hl0:∀ r,r ∈ l0 -> r.length = n.toNat) (hp:p.all (inU n) = true) (Z:List Int):∀ (F:Nat) (l:List Rw) (acc:List St) (σ:Int -> Int),tok n l = true -> Ch n.toNat p m l0 l σ -> Cov Z l -> muC Z l < F ->
 (j6 F n l p m acc = ([],(0,[]),3) /\ ¬ m = []) \/ ∃ sts lend σ',j6 F n l p m acc = (acc ++ sts,(n,lend),0) /\ Ch n.toNat p m l0 lend σ' /\ tok n lend = true /\ gh lend p m = none /\ TrZ n p m lend l sts:=by
 intro F
 induction F with
 | zero=>intro _ _ _ _ _ _ h;exact absurd h (brg _)
 | succ F ih =>
  intro l acc σ hT hC hZ hF
  cases hn:gh l p m with
  | none=>exact .inr ⟨[],l,σ,by rw [adw bv9 hn,bse],hC,hT,hn,rfl⟩
  | some s =>
   have hs:=ags hn
   rcases ao4 hT hp hs with e | ⟨l',e,hT',h3⟩
   · left
     refine ⟨ad4 bv9 hn e bvg,fun hm=>?_⟩;have:=b3s hT hp hm hs;rw [e] at this;exact absurd this bvg
   obtain ⟨h4,h5⟩:=h3 Z hZ;obtain ⟨_,σ',hC'⟩:=Ch.app hl0 hT hp hC (auq hs) (by rw [e]);rw [e] at hC'
   rcases ih l' (acc ++ [s]) σ' hT' hC' h4 bv9 with ⟨q,q0⟩ | ⟨sts,lend,σ2,q1,q2,q3,q4,q5⟩
   · left
     exact ⟨by rw [a1x bv9 hn e,Nat.add_sub_cancel,q],q0⟩
   right;refine ⟨s :: sts,lend,σ2, ?_,q2,q3,q4,hT,hs,l',e,fun e=>?_,q5⟩
   · rw [a1x bv9 hn e,Nat.add_sub_cancel,q1,bsm]
     rfl
   subst e;omega
def azz (hT:tok n l = true) (hb:dv n p m = 0):(ml FU n l p m = ([],(0,[]),3) /\ ¬ m = []) \/ ∃ sts lend σ,ml FU n l p m = (sts,(n,lend),0) /\ Ch n.toNat p m l lend σ /\ tok n lend = true /\ gh lend p m = none /\ TrZ n p m lend l sts:=by
 have hck:ckE n l p m = 0:=(if_pos hT).trans hb;rw [a4i hck]
 rcases az8 (fun r hr=>(rh hT r hr).1) (agj hb).2.2.2.1 l.flatten FU l [] id hT Ch.start (aos l) (b0h hT) with h | ⟨sts,lend,σ',q1,q⟩
 · exact .inl h
 exact .inr ⟨sts,lend,σ',by rw [q1,btg],q⟩
def trL (n:Int) (p m:List Fd):List Rw -> List St -> List (List Rw)
 | l,[]=>[l]
 | l,s :: r=>l :: trL n p m (dp n l p m s).2.1 r
def ah2:∀ {sts:List St} {l:List Rw},(trL n p m l sts).length = sts.length + 1
 | [],_=>rfl
 | s :: r,l=>by unfold trL;rw [bs6,ah2,bs6]
def ale:∀ {sts:List St} {l lend:List Rw},TrZ n p m lend l sts -> lend ∈ trL n p m l sts
 | [],l,lend,h=>by
  have h:l = lend:=h;subst h;simp [trL]
 | s :: r,l,lend,h=>by
  obtain ⟨_,_,l',e,_,h⟩:=h;unfold trL;rw [e];exact bs1 _ (ale h)
def b05 (hl0:∀ r,r ∈ l0 -> r.length = n.toNat) (hp:p.all (inU n) = true):∀ {sts:List St} {l lend:List Rw} {σ:Int -> Int},TrZ n p m lend l sts -> tok n lend = true -> Ch n.toNat p m l0 l σ -> ∀ t,t ∈ trL n p m l sts -> ∃ σ,Ch n.toNat p m l0 t σ
 | [],l,lend,σ,h,_,hC,t,ht=>by
  rw [bru.1 (show t ∈ [l] from ht)];exact ⟨σ,hC⟩
 | s :: r,l,lend,σ,h,hTe,hC,t,ht=>by
  obtain ⟨hT,hs,l',e,_,h⟩:=h;unfold trL at ht;rw [e] at ht
  rcases brm.1 ht with rfl | ht
  · exact ⟨σ,hC⟩
  obtain ⟨_,σ',hC'⟩:=Ch.app hl0 hT hp hC (auq hs) (by rw [e]);rw [e] at hC';exact b05 hl0 hp h hTe hC' t ht
end
section
variable {n:Int} {ps:List AS} {p m:List Fd}
def aco (h0:0 <= n) (h16:n <= 16) (hk:ps.length <= 64):tok n (bf (ax n ps)) = true:=by
 refine a6e h0 h16 ?_ fun r hr=>?_
 · have:=aiu (ax n ps)
   rw [yo] at this;omega
 obtain ⟨h1,h2⟩:=af5 hr;refine ⟨h1,fun z hz=>?_⟩;obtain ⟨i,hi,rfl⟩:=vb hz
 rcases az4 h0 (h2 i bv9) with h3 | h3 <;> omega
def a6f (hk:ps.length <= 64) (hb:dv n p m = 0) :
 (ml FU n (bf (ax n ps)) p m = ([],(0,[]),3) /\ ¬ m = []) \/ ∃ sts lend,ml FU n (bf (ax n ps)) p m = (sts,(n,lend),0) /\ (dg n ∈ lend <-> LR n.toNat p m (ax n ps) (dg n)) /\
  TrZ n p m lend (bf (ax n ps)) sts /\ tok n lend = true /\ ((∃ t,t ∈ trL n p m (bf (ax n ps)) sts /\ dg n ∈ t) <-> dg n ∈ lend):=by
 obtain ⟨h0,h16,_,hp,_⟩:=agj hb;have hT:=aco h0 h16 hk;have hl0:∀ r,r ∈ bf (ax n ps) -> r.length = n.toNat:=fun r hr=>(rh hT r hr).1
 rcases azz hT hb with h | ⟨sts,lend,σ,h1,h2,h3,h4,h5⟩
 · exact .inl h
 right
 have hf:dg n ∈ lend <-> LR n.toNat p m (bf (ax n ps)) (dg n):=by
  rw [h2.mem h3 hl0 h4];exact ⟨fun h=>h.1,fun h=>⟨h,h2.first h0⟩⟩
 refine ⟨sts,lend,h1,by rw [hf,bih (l':=ax n ps) fun r=>i6],h5,h3, ?_⟩;constructor
 · rintro ⟨t,ht,hft⟩
   obtain ⟨σ',hC⟩:=b05 hl0 hp h5 h3 Ch.start t ht;exact hf.2 (hC.rows _ hft)
 intro h;exact ⟨lend,ale h5,h⟩
end
end
section
section
variable {n:Int} {l:List Fd}
def asg (h:bj n l = 0):∀ f ∈ l,sub f.lhs (aa n) /\ sub f.rhs (aa n):=fun f hf=>by
 obtain ⟨h0,h1,_,h3⟩:=fz h;exact (a95 h0 h1).1 (bs2.1 h3 f hf)
def are (h:bj n l = 0):s7 l (aa n):=fun f hf _=>(asg h f hf).2
def a5g (h:bj n l = 0) {x:AS} (hx:sub x (aa n)):sub (clo l x) (aa n):=l4 (are h) hx
end
def a1p {α β:Type} [Inhabited α] {f:α -> β} {l:List α} {i:Nat} (h:i < l.length):(l.take (i + 1)).map f = (l.take i).map f ++ [f (l.getD i default)]:=by
 rw [al h,bth];rfl
structure Dps where
 n:BitVec 8
 l:List Dp
deriving Inhabited
def Dps.num (d:Dps):Int:=((d.n.toNat % 7:Nat):Int)
def Dps.fds (d:Dps):List Fd:=d.l.map (Dp.fd d.num)
def Dps.c (d:Dps):Nat -> PV
 | 0=>.raw (.int .u8 (d.n.toNat:Int))
 | 1=>dpl d.l
 | _=>.any
abbrev Dps.pc (d:Dps):PC:=.agg [d.c 0,d.c 1]
def b1w (d:Dps):0 <= d.num /\ d.num <= 6:=by unfold Dps.num;omega
def bfc {d:Dps} (h:d.l.length <= 6):bj d.num d.fds = 0:=by
 obtain ⟨h0,h1⟩:=b1w d;unfold bj;rw [if_neg bv9,if_neg (by unfold Dps.fds;rw [bsc];omega),if_pos];rw [bs2];intro f hf;unfold Dps.fds at hf;obtain ⟨x,hx,rfl⟩:=brp.1 hf;exact (a95 h0 bv9).2 ⟨qk,qk⟩
end
section
def noA (s:AS) (a:Nat):AS:=s &&& ~~~((1:AS) <<< a)
def ax0 (s:AS) (a:Nat) {b:Int} (h:b.toNat = a):cn .andNot .u32 (asI s) (IntKind.wrap .u32 (1 * 2 ^ (min b.toNat 32))) = asI (noA s a):=by
 rw [h];exact a9p s a
def a3e (n:Int) (l:List Fd) (s:AS) (a:Nat):AS:=if it n l (noA s a) = true then noA s a else s
def io (n:Int) (l:List Fd) (s:AS) (k:Nat):AS:=(List.range k).foldl (fun s j=>a3e n l s (n.toNat - 1 - j)) s
def rg (n:Int) (l:List Fd) (s:AS) (k:Nat):io n l s (k + 1) = a3e n l (io n l s k) (n.toNat - 1 - k):=by
 unfold io;rw [bsp,bs8];rfl
section
variable {l:List Fd} {n:Int} {s:AS}
def at0 {k:Nat} (h:it n l (noA (io n l s k) (n.toNat - 1 - k)) = true):io n l s (k + 1) = noA (io n l s k) (n.toNat - 1 - k):=by
 rw [rg];exact if_pos h
def aut {k:Nat} (h:it n l (noA (io n l s k) (n.toNat - 1 - k)) = false):io n l s (k + 1) = io n l s k:=by
 rw [rg];exact if_neg (by rw [h];decide)
def rkE (n:Int) (l:List Fd) (s:AS):Int:=if bj n l = 0 then (if it n l s = true then 0 else 1) else bj n l
def rkS (n:Int) (l:List Fd) (s:AS):AS:=if rkE n l s = 0 then io n l s n.toNat else 0
def boo (h:¬ bj n l = 0):rkS n l s = 0 /\ rkE n l s = bj n l:=by
 have e:rkE n l s = bj n l:=if_neg h;exact ⟨if_neg (by rw [e];exact h),e⟩
def bnf (h:bj n l = 0) (h2:it n l s = false):rkS n l s = 0 /\ rkE n l s = 1:=by
 have e:rkE n l s = 1:=by unfold rkE;rw [if_pos h,if_neg (by rw [h2];decide)]
 exact ⟨if_neg (by rw [e];decide),e⟩
def avj (h:bj n l = 0) (h2:it n l s = true):rkS n l s = io n l s n.toNat /\ rkE n l s = 0:=by
 have e:rkE n l s = 0:=by unfold rkE;rw [if_pos h,if_pos h2]
 exact ⟨if_pos e,e⟩
def bl7 (n:Int) (l:List Fd) (s:AS):Bool:=it n l s && (List.range n.toNat).all fun a=>!(s.getLsbD a && it n l (noA s a))
def bkt (n:Int) (l:List Fd) (i:Nat):List AS:=((List.range i).map (BitVec.ofNat 32)).filter (bl7 n l)
def b8b (n:Int) (l:List Fd):List AS:=if bj n l = 0 then ord (bkt n l (2 ^ n.toNat)) else []
end
end
section
open Go.Proofs
def bbb (n:Int) (l:List Fd) (s:AS):a6 bw0 39 [pI n,pP (fdl l),pA s] (af [pA (rkS n l s),pI (rkE n l s)]):=by
 refine hpx (nt:=38) Tryz.func39 ?_;refine dc ?_;refine qcx zn (a3c n l) ?_;refine w_7 ?_;refine hcn (fun h0=>?_) (fun h0=>?_)
 · refine w_6 ?_;refine hrr ?_;have he:=boo (s:=s) h0;exact f9 rfl rfl (⟨cci (congrArg asI he.1.symm),cci he.2.symm,trivial⟩)
 refine w_7 ?_;refine qcx apg (awa n l s) ?_;refine w_2 ?_;refine hcv (fun h1=>?_) (fun h1=>?_)
 · refine w_5 ?_;refine hrr ?_;have he:=bnf h0 bva;exact f9 rfl rfl (⟨cci (congrArg asI he.1.symm),cci he.2.symm,trivial⟩)
 refine w_3 ?_;have hv:=fz h0;refine w_6 ?_;refine br (ka 0 (ka 1 kn)) km (fun k=>⟨[(2,some (vA (io n l s k))),(9,some (vI (n - 1 - (k:Int))))],[]⟩) n.toNat ⟨⟨zy,⟨_,rfl,(coi bv9)⟩,trivial⟩,trivial⟩ ?_;rintro k hk;refine w_6 ?_;refine hcd (fun h2=>?_) (fun h2=>?_)
 ·
  refine v7 ?_;refine rc rfl rfl rfl rfl rfl rfl apg (awa n l (noA (io n l s k) (n.toNat - 1 - k))) (⟨CoC.refl _,CoC.refl _,cci (ax0 _ _ bv9),trivial⟩) rfl rfl ?_;refine cw ?_;refine hcb (fun h3=>?_) (fun h3=>?_)
  ·
   refine w_9 ?_
   first | (refine lpz (k + 1) ⟨⟨⟨_, rfl, (oi ((ax0 _ (n.toNat - 1 - k) bv9).trans (congrArg asI (at0 bva).symm)))⟩, ⟨_, rfl, (coi bv9)⟩, tt⟩, trivial⟩ ?_; show k + 1 <= _; omega)
         | (refine lpz (k + 1) ⟨⟨⟨_,rfl,(oi (by rw [aut bva]))⟩,⟨_,rfl,(coi bv9)⟩,tt⟩,trivial⟩ ?_;show k + 1 <= _;omega)
  refine w_6 ?_
  first | (refine lpz (k + 1) ⟨⟨⟨_, rfl, (oi ((ax0 _ (n.toNat - 1 - k) bv9).trans (congrArg asI (at0 bva).symm)))⟩, ⟨_, rfl, (coi bv9)⟩, tt⟩, trivial⟩ ?_; show k + 1 <= _; omega)
        | (refine lpz (k + 1) ⟨⟨⟨_,rfl,(oi (by rw [aut bva]))⟩,⟨_,rfl,(coi bv9)⟩,tt⟩,trivial⟩ ?_;show k + 1 <= _;omega)
 refine w_7 ?_;refine hrr ?_;have he:=avj h0 bva;obtain rfl:k = n.toNat:=by omega
 exact f9 rfl rfl (⟨cci (congrArg asI he.1.symm),cci he.2.symm,trivial⟩)
end
section
def bkb {n:Int} (h0:0 <= n) (h1:n <= 16):IntKind.wrap .i64 (1 * 2 ^ min n.toNat IntKind.i64.bits) = ((2 ^ n.toNat:Nat):Int):=by
 have h2:2 ^ n.toNat <= 2 ^ 16:=bsr bv9 bv9
 have e:(1:Int) * 2 ^ min n.toNat IntKind.i64.bits = ((2 ^ n.toNat:Nat):Int):=by
  rw [show min n.toNat IntKind.i64.bits = n.toNat from bsh (by show n.toNat <= 64;omega),Int.natCast_pow,Int.one_mul];rfl
 rw [e];have h3:((2 ^ n.toNat:Nat):Int) <= 65536:=by omega
 have h4:0 <= ((2 ^ n.toNat:Nat):Int):=btf _;generalize ((2 ^ n.toNat:Nat):Int) = z at *;exact tz (by simp only [inR,wk,zo];omega)
def bC:Bool -> Nat -> PV:=fun b _=>.raw (.bool b)
def b6p (n:Int) (l:List Fd) (k:Nat):Bool:=decide (clo l (BitVec.ofNat 32 k) = aa n)
def boe (n:Int) (l:List Fd) (i:Nat):List Bool:=(List.range (2 ^ n.toNat)).map fun k=>decide (k < i) && b6p n l k
def br9 (n:Int) (l:List Fd):List Bool:=boe n l (2 ^ n.toNat)
end
section
section
variable {n:Int} {l:List Fd}
def okA (n:Int) (l:List Fd) (i a:Nat):Bool:=b6p n l i && (List.range a).all fun b=>!(i.testBit b && b6p n l (i ^^^ 2 ^ b))
section
variable {i a:Nat} (hv:bj n l = 0) (hi:i < 2 ^ n.toNat) (ha:(a:Int) < n) (hx:i ^^^ 2 ^ a < 2 ^ n.toNat)
include hv hi ha hx
end
end
end
section
def act (s:AS):Nat -> AS -> List AS
 | 0,_=>[]
 | n + 1,x=>if x = 0 then [] else x :: act s n ((x - 1) &&& s)
def a8c (s:AS):List AS:=0 :: act s (s.toNat + 1) s
def sub_zero (s:AS):sub 0 s:=aq.2 fun i hi h=>by simp at h
def ajh {s:AS}:∀ (n:Nat) (x:AS),sub x s -> x.toNat < n -> ∀ z,z ∈ act s n x <-> sub z s /\ z ≠ 0 /\ z.toNat <= x.toNat
 | 0,x,_,h,z=>absurd h (brg _)
 | n + 1,x,hx,h,z=>by
  unfold act;by_cases h0:x = 0
  · rw [if_pos h0]
    subst h0;constructor
    · intro h;cases h
    rintro ⟨_,h1,h2⟩;exact absurd (bso (Nat.le_antisymm h2 (bre _))) h1
  rw [if_neg h0,brm,ajh n _ a4r (by have:=vv (s:=s) h0;omega)];constructor
  · rintro (rfl | ⟨h1,h2,h3⟩)
    · exact ⟨hx,h0,brd _⟩
    have:=vv (s:=s) h0;exact ⟨h1,h2,by omega⟩
  rintro ⟨h1,h2,h3⟩;by_cases he:z = x
  · exact .inl he
  have hne:z.toNat ≠ x.toNat:=fun e=>he (bso e);exact .inr ⟨h1,h2,abi hx h1 bv9⟩
def aid {s z:AS}:z ∈ a8c s <-> sub z s:=by
 unfold a8c;rw [brm,ajh _ _ (sub_self s) (Nat.lt_succ_self _)];constructor
 · rintro (rfl | h)
   · exact sub_zero s
   exact h.1
 intro h;by_cases h0:z = 0
 · exact .inl h0
 exact .inr ⟨h,h0,akl h⟩
def TsI (s:AS) (x:Nat × List AS × AS):Prop:=x.2.1 ++ act s x.1 x.2.2 = a8c s /\ x.2.2.toNat < x.1 /\ x.2.1.length + x.1 = s.toNat + 2
def zg (l:List Fd) (p s:AS):Bool:=decide (sub p (clo l s))
def aqf (l:List Fd) (p x:AS):Bool:=(List.range 32).all fun a=>!(x.getLsbD a && zg l p (noA x a))
def bis {l:List Fd} {p x:AS} (h2:∀ a,a < 32 -> x.getLsbD a = true -> zg l p (noA x a) = false):aqf l p x = true:=by
 unfold aqf;rw [bs2];intro a ha
 cases hx:x.getLsbD a with
 | false=>rfl
 | true=>rw [h2 a (brw.1 ha) hx];rfl
def bqq (l:List Fd) (p x r:AS):Prop:=sub r x /\ ∀ a,a < 32 -> x.getLsbD a = true -> r.getLsbD a = true \/ zg l p (noA x a) = false
def ah7 (l:List Fd) (p x:AS):Bool:=zg l p x && aqf l p x
def a3w (l:List Fd) (p:AS):AS:=orL ((a8c p).filter (ah7 l p))
def a2s {k:Nat}:∀ {ps:List AS} {s:AS},(ps.foldl (· ||| ·) s).getLsbD k = (s.getLsbD k || ps.any fun x=>x.getLsbD k)
 | [],s=>by simp
 | x :: ps,s=>by
  rw [btp,a2s,bt5,List.any_cons,Bool.or_assoc]
def boq (l:List Fd) (p:AS) (i:Nat):AS:=orL (((a8c p).take i).filter (ah7 l p))
def bjt {l:List Fd} {p x:AS} (h:zg l p x = true) (h2:aqf l p x = true):ah7 l p x = true:=by unfold ah7;rw [h,h2];rfl
end
section
def bqo (l:List Fd) (p x:AS) (a:Nat):Bool:=(List.range a).all fun b=>!(x.getLsbD b && zg l p (noA x b))
def bnr (i:Nat):List AS:=(List.range i).map (BitVec.ofNat 32)
def prQ (l:List Fd) (p x:AS):Bool:=decide (sub x p) && ah7 l p x
def boz (l:List Fd) (p:AS) (i:Nat):AS:=orL ((bnr i).filter (prQ l p))
section
variable {l:List Fd} {p:AS} {i:Nat}
end
def bhi (l:List Fd) (p x:AS):Bool:=!zg l p x && decide (((clo l x &&& p) &&& ~~~x) &&& ~~~a3w l p ≠ 0)
def qa (l:List Fd) (p:AS):Bool:=!(a8c p).any (bhi l p)
def bo9 (n:Int) (l:List Fd) (p:AS):Int:=if bj n l = 0 then (if sub p (aa n) then 0 else 1) else bj n l
def bps (n:Int) (l:List Fd) (p:AS):Bool:=decide (bo9 n l p = 0) && qa l p
end
section
def a2g {l:List Fd} {i:Nat} {x:Fd} (h:x ∈ d6 l i):x ∈ l:=by
 unfold d6 at h
 rcases brr.1 h with h | h
 · exact buf h
 exact List.mem_of_mem_drop h
def ul {x:Fd}:∀ (f:Nat) (l:List Fd) (i:Nat),x ∈ jx f l i -> x ∈ l
 | 0,l,i,h=>h
 | f + 1,l,i,h=>by
  unfold jx at h;split at h
  · split at h
    · exact a2g (ul f _ _ h)
    exact ul f _ _ h
  exact h
def beh {n:Int} {l:List Fd} (h:bj n l = 0):vd (aa n) (mw l):=fun x hx=>by
 have h1:=ul _ _ _ hx;exact arz (bin (b3z h)) _ x (l8.1 h1)
section
variable {n:Int} {l:List Fd}
def bf4 (n:Int) (l:List Fd) (f:Fd):Bool:=decide (clo l f.lhs ≠ aa n) && decide (f.rhs &&& ~~~a3w l (aa n) ≠ 0)
def bpq (n:Int) (l:List Fd) (i:Nat):List Fd:=((sb n l).take i).filter (bf4 n l)
def bp1 (n:Int) (l:List Fd):List Fd:=(sb n l).filter (bf4 n l)
def aof (n:Int) (l:List Fd):(sb n l).length <= 2048:=by
 unfold sb;split
 · rename_i h
   have h1:=(fz h).2.2.1;have h2:=aea l
   have h3:(mw l).length <= (a03 l).length:=by
    have:∀ (f:Nat) (k:List Fd) (i:Nat),(jx f k i).length <= k.length:=by
     intro f
     induction f with
     | zero=>intro k i;exact brd _
     | succ f ih =>
      intro k i;unfold jx;split
      · rename_i hi
        split
        · exact bs4 (ih _ _) (by rw [l5 hi];omega)
        exact ih _ _
      exact brd _
    exact this _ _ _
   omega
 simp
end
end
section
def bnc (l:List Fd) (pr k:AS):Bool:=(List.range 32).all fun a=>!k.getLsbD a || decide (sub (clo l (noA k a)) pr)
def bo8 (n:Int) (l:List Fd):Bool:=(b8b n l).all (bnc l (orL (b8b n l)))
def bq7 (n:Int) (l:List Fd):Bool:=decide (bj n l = 0) && bo8 n l
section
variable {l:List Fd} {pr k:AS}
def bqs (l:List Fd) (pr k r:AS):Prop:=sub r k /\ ∀ a,a < 32 -> k.getLsbD a = true -> r.getLsbD a = true \/ sub (clo l (noA k a)) pr
def bqy (l:List Fd) (pr k:AS) (s:Nat):Prop:=∀ j,j < s -> sub (BitVec.ofNat 32 j) k -> sub (clo l (BitVec.ofNat 32 j)) pr
end
section
variable {n:Int} {l:List Fd}
end
end
section
def mgR (l:List Fd) (s:AS):AS:=(l.filter fun f=>decide (f.lhs = s)).foldl (fun a f=>a ||| f.rhs) 0
def mgF (l:List Fd) (s:AS):Fd:=⟨s,mgR l s⟩
def a05 (l:List Fd):List Fd:=(ord (l.map Fd.lhs)).map (mgF l)
def bma {l:List Fd} {s:AS} {i:Nat} (hi:i < l.length) (h:(l.getD i default).lhs = s):mgR (l.take (i + 1)) s = mgR (l.take i) s ||| (l.getD i default).rhs:=by
 unfold mgR;rw [al hi,bta,bs8];simp only [bti,h,decide_true,if_true,buk,btp,List.foldl_nil]
def bka {l:List Fd} {s:AS} {i:Nat} (hi:i < l.length) (h:¬ (l.getD i default).lhs = s):mgR (l.take (i + 1)) s = mgR (l.take i) s:=by
 unfold mgR;rw [al hi,bta,bs8];simp only [bti,h,decide_false,bui,if_false,buk,List.foldl_nil]
def bnu {l:List Fd} {s:AS} {i:Nat} (hi:i < l.length) (h:asI (l.getD i default).lhs = asI s):PV.raw (.int .u32 (cn .or .u32 (asI (mgR (l.take i) s)) (asI (l.getD i default).rhs))) = asC (mgR (l.take (i + 1)) s):=by
 rw [bOr,bma hi (dj.1 h)];rfl
def b4i (l:List Fd):(a05 l).length <= l.length:=by
 unfold a05;rw [bsc];exact bs4 (zb _) (by rw [bsc];exact brd _)
end
section
open Go.Proofs
def ww (t:AS) (l:List Fd):Prop:=∀ x ∈ l,sub x.rhs t
section
variable {l:List Fd} {t:AS}
def b2u {i a:Nat} (h:ww t l):ww t (eo i l a):=by
 unfold eo;split
 · intro x hx
   rcases bu0 hx with hx | rfl
   · exact h x hx
   by_cases hi:i < l.length
   · exact h (l.getD i default) (by rw [brc,brb hi];exact brs hi)
   rw [bto bv9] at hx;exact h _ hx
 exact h
def aia {i:Nat}:∀ (m:List Nat) (l:List Fd),ww t l -> ww t (m.foldl (eo i) l)
 | [],_,h=>h
 | a :: m,l,h=>aia m _ (b2u h)
def amv (h:ww t l):∀ i,ww t (jj l i)
 | 0=>h
 | i + 1=>by rw [uo];exact aia _ _ (amv h i)
def bcp (h:ww t l):ww t (spl l):=by
 intro x hx;have hx:=l8.1 hx;unfold gl at hx;obtain ⟨ys,hys,hxy⟩:=buy.1 hx;obtain ⟨f,hf,rfl⟩:=brp.1 hys;unfold oz at hxy;obtain ⟨a,ha,rfl⟩:=brp.1 hxy;refine aq.2 fun i hi hb=>?_;have h1:((1:AS) <<< a).getLsbD i = decide (i = a):=lb a i hi;rw [show (⟨f.lhs,(1:AS) <<< a⟩:Fd).rhs.getLsbD i = decide (i = a) from h1,decide_eq_true_iff] at hb;subst hb;have hm:=(jg.1 ha).2;rw [brv,brk] at hm;exact aq.1 (h f hf) i hi hm.1
def b46 {n:Int} (h:bj n l = 0):ww (aa n) (mw l):=fun x hx=>by
 have h1:=ul _ _ _ hx;exact amv (bcp fun f hf=>(asg h f hf).2) _ x (l8.1 h1)
def aq6:∀ (l:List Fd) (s:AS),sub s t -> (∀ f ∈ l,sub f.rhs t) -> sub (l.foldl (fun a f=>a ||| f.rhs) s) t
 | [],s,h,_=>h
 | f :: l,s,h,hl=>aq6 l _ (vc h (hl f (bsj ..))) fun g hg=>hl g (bs1 _ hg)
def bgc (h1:vd t l) (h2:ww t l):∀ f ∈ a05 l,sub f.lhs t /\ sub f.rhs t:=fun f hf=>by
 unfold a05 at hf;obtain ⟨s,hs,rfl⟩:=brp.1 hf;obtain ⟨g,hg,rfl⟩:=brp.1 (pg.1 hs);exact ⟨h1 g hg,aq6 _ _ (sub_zero t) fun x hx=>h2 x (bt4.1 hx).1⟩
def gt (n:Int) (l:List Fd):List Fd:=a05 (sb n l)
def aqg (n:Int) (l:List Fd):(gt n l).length <= 2048:=bs4 (b4i _) (aof n l)
def pt (f:Fd):AS:=f.lhs ||| f.rhs
end
section
variable {n:Int} {l:List Fd}
def ni (n:Int) (l:List Fd) (i:Nat):Bool:=((gt n l).take i).any fun f=>it n l (pt f)
def a47 {i:Nat} (hi:i < (gt n l).length):ni n l (i + 1) = (ni n l i || it n l (pt ((gt n l).getD i default))):=by
 unfold ni;rw [al hi,List.any_append];simp
def a0r (h:bj n l = 0):it n l (aa n) = true:=decide_eq_true ⟨h,fl _,dw (a5g h (fl _)) lw⟩
def bd6 (h:bj n l = 0):rkE n l (aa n) = 0:=(avj h (a0r h)).2
def wl (n:Int) (l:List Fd):List AS:=(gt n l).map pt
def avt (n:Int) (l:List Fd):List AS:=j9 (if ni n l (gt n l).length = true then wl n l else wl n l ++ [rkS n l (aa n)])
def k7 (n:Int) (l:List Fd):List AS:=if bj n l = 0 then avt n l else []
def bjv (h:¬ bj n l = 0):k7 n l = []:=if_neg h
def a3x (h:bj n l = 0):k7 n l = avt n l:=if_pos h
def b5l (n:Int) (l:List Fd):(wl n l).length <= 2048:=by unfold wl;rw [bsc];exact aqg n l
def aiw (n:Int) (l:List Fd):((gt n l).take (gt n l).length).map pt = wl n l:=by rw [bro];rfl
def ny (n:Int) (l:List Fd):List AS:=if ni n l (gt n l).length = true then wl n l else wl n l ++ [rkS n l (aa n)]
def a3n (h:ni n l (gt n l).length = true):ny n l = ((gt n l).take (gt n l).length).map pt:=by rw [aiw];exact if_pos h
def adz (h:ni n l (gt n l).length = false):ny n l = ((gt n l).take (gt n l).length).map pt ++ [rkS n l (aa n)]:=by rw [aiw];exact if_neg (by rw [h];decide)
def b2l (n:Int) (l:List Fd):(ny n l).length <= 4096:=by
 have:=b5l n l;unfold ny;split
 · omega
 rw [brh,bst];omega
def b8d {i:Nat} (hi:i < (gt n l).length) (h:ni n l i = true):true = ni n l (i + 1):=by rw [a47 hi,h];rfl
def b7b {i:Nat} (hi:i < (gt n l).length) (h:ni n l i = false):it n l (pt ((gt n l).getD i default)) = ni n l (i + 1):=by rw [a47 hi,h];rfl
def b7o {i:Nat} (hi:i < (gt n l).length):(bif ni n l i then true else it n l (pt ((gt n l).getD i default))) = ni n l (i + 1):=by rw [a47 hi];cases ni n l i <;> rfl
end
end
section
open Go.Proofs
def bgy (hM:∀ k:List Fd,k.length <= 16777216 -> a6 bw0 89 [pP (fdl k)] (af [pP (fdl (a05 k))])) (n:Int) (l:List Fd):a6 bw0 37 [pI n,pP (fdl l)] (af [pP (fdl (gt n l)),pI (bj n l)]):=by
 refine hpx (nt:=17) Tryz.func37 ?_;refine w_9 ?_;refine qcx (wgx Tryz.func63) (bkv n l) ?_;refine w_7 ?_;have hml:=aof n l;refine w_2 ?_;refine qcx (wgx Tryz.func89) (hM (sb n l) bv9) ?_;refine v_4 ?_;exact CoL.refl _
def atj (hM:∀ k:List Fd,k.length <= 16777216 -> a6 bw0 89 [pP (fdl k)] (af [pP (fdl (a05 k))])) (n:Int) (l:List Fd):a6 bw0 10 [pI n,pP (fdl l)] (af [pP (asl (k7 n l)),pI (bj n l)]):=by
 refine hpx (nt:=66) Tryz.func10 ?_;refine w_9 ?_;refine qcx (wgx Tryz.func37) (bgy hM n l) ?_;refine j4 ?_;refine hcn (fun h0=>?_) (fun h0=>?_)
 · refine v_6 ?_;exact ⟨CoC.one (b3k (bjv h0)),CoC.refl _,trivial⟩
 refine w_2 ?_;have hv:=fz h0;have hcl:=aqg n l;have hsl:=b2l n l;refine k8 ?_;refine df 8 900 true 1 50 (lf sC []) bvg rfl (CoP.sl rfl (.inr rfl) (fun h=>h) (fun i j hi _=>absurd hi (brg i))) (.inr rfl) rfl ?_;refine br (ka 0 (ka 1 (ka 24 (ka 25 kn)))) km (fun i=>⟨[(8,some (.v (.one (.ref 900 (((gt n l).take i).map pt).length)))),(9,some (vB (ni n l i))),(26,some (vI i))],[(900,some (.arr true 1 50 (((gt n l).take i).map pt).length (lf sC (((gt n l).take i).map pt))))]⟩) ((gt n l).length) ⟨⟨zy,⟨_,rfl,(cob rfl)⟩,tt⟩,uu⟩ ?_;rintro i hi;have hlen:(((gt n l).take i).map pt).length <= i:=by rw [bsc,brl];omega
 refine w_5 ?_;refine hcd (fun h1=>?_) (fun h1=>?_)
 ·
  refine w_7 ?_;refine m9 0 ?_;refine k8 ?_;refine m9 1 ?_;refine r9 2 true ?_;refine w_5 ?_;refine aw rfl rfl (fun r2=>?_) (fun r2=>?_)
  ·
   have h2:=r2;(iterate 4 refine k9 (gtf r2) ?_);refine w_7 ?_
   exact lpx (i + 1) ⟨⟨⟨_,rfl,(bz (a1p bv9))⟩,⟨_,rfl,(cob (by first | exact b8d (n:=n) (l:=l) (i:=i) bv9 bva | exact b7b (n:=n) (l:=l) (i:=i) bv9 bva | exact b7o (n:=n) (l:=l) (i:=i) bv9))⟩,tt⟩,⟨⟨_,rfl,(c5 (a1p bv9) (CoP.of_eq (congrArg (fun z=>PV.raw (.int .u32 z)) (bOr _ _))))⟩,trivial⟩⟩
  have h2:=r2;(iterate 3 refine qy ?_ (hg:=(gff r2)));refine rc rfl rfl rfl rfl rfl rfl apg (awa n l (pt ((gt n l).getD i default))) (⟨CoC.refl _,CoC.refl _,cci (bOr _ _),trivial⟩) rfl (gff r2) ?_;refine w_7 ?_
  exact lpx (i + 1) ⟨⟨⟨_,rfl,(bz (a1p bv9))⟩,⟨_,rfl,(cob (by first | exact b8d (n:=n) (l:=l) (i:=i) bv9 bva | exact b7b (n:=n) (l:=l) (i:=i) bv9 bva | exact b7o (n:=n) (l:=l) (i:=i) bv9))⟩,tt⟩,⟨⟨_,rfl,(c5 (a1p bv9) (CoP.of_eq (congrArg (fun z=>PV.raw (.int .u32 z)) (bOr _ _))))⟩,trivial⟩⟩
 obtain rfl:i = (gt n l).length:=by omega
 refine d7 ?_;refine aek kn km ⟨[(8,some (.v (.one (.ref 900 (ny n l).length))))],[(900,some (.arr true 1 50 (ny n l).length (lf sC (ny n l))))]⟩ ?_ ?_
 ·
  refine w_5 ?_;refine hcv (fun h3=>?_) (fun h3=>?_)
  ·
   refine w_5 ?_;refine qcx (wgx Tryz.func40) (bf7 n hv.1 hv.2.1) ?_;refine qcx (wgx Tryz.func39) (bbb n l (aa n)) ?_;refine j4 ?_;refine hcn (fun h4=>?_) (fun h4=>?_)
   · exfalso;exact h4 (bd6 h0)
   refine w_4 ?_;refine m9 3 ?_;refine r9 4 true ?_;refine w_2 ?_;exact ⟨⟨⟨_,rfl,(by first | exact fe (by rw [a3n bva]) | exact fe (by rw [adz bva,brh];rfl))⟩,trivial⟩,⟨⟨_,rfl,(by first | exact jy (a3n bva) (by rw [a3n bva]) | exact c5 (adz bva) (CoP.refl _))⟩,trivial⟩⟩
  refine dy ?_;exact ⟨⟨⟨_,rfl,(by first | exact fe (by rw [a3n bva]) | exact fe (by rw [adz bva,brh];rfl))⟩,trivial⟩,⟨⟨_,rfl,(by first | exact jy (a3n bva) (by rw [a3n bva]) | exact c5 (adz bva) (CoP.refl _))⟩,trivial⟩⟩
 refine cq ?_;refine bn 8 rfl rfl rfl ?_;refine w_2 ?_;refine qcx akz (ab6 (ny n l) bv9) ?_;refine v_3 ?_;exact ⟨CoC.one (CoP.of_eq (by rw [a3x h0];rfl)),cci h0.symm,trivial⟩
end
section
def Eqv (l k:List Fd):Prop:=∀ s,s7 l s <-> s7 k s
theorem Eqv.refl (l:List Fd):Eqv l l:=fun s=>Iff.rfl
theorem Eqv.trans {a b c:List Fd} (h:Eqv a b) (k:Eqv b c):Eqv a c:=fun s=>(h s).trans (k s)
section
variable {l:List Fd}
theorem Eqv.clo {k:List Fd} (h:Eqv l k) (s:AS):clo l s = clo k s :=
 dw (l4 ((h _).2 ij) lw) (l4 ((h _).1 ij) lw)
def ahv {k:List Fd} (h:∀ f,f ∈ l <-> f ∈ k):Eqv l k:=fun s=>⟨fun hs f hf=>hs f ((h f).2 hf),fun hs f hf=>hs f ((h f).1 hf)⟩
def aju (l:List Fd):Eqv l (gl l):=fun s=>by
 constructor
 · intro hs g hg hgs
   unfold gl at hg;obtain ⟨ys,hys,hxy⟩:=buy.1 hg;obtain ⟨f,hf,rfl⟩:=brp.1 hys;unfold oz at hxy;obtain ⟨a,ha,rfl⟩:=brp.1 hxy;have hr:=hs f hf hgs;refine aq.2 fun i hi hb=>?_;have h1:((1:AS) <<< a).getLsbD i = decide (i = a):=lb a i hi;rw [show (⟨f.lhs,(1:AS) <<< a⟩:Fd).rhs.getLsbD i = decide (i = a) from h1,decide_eq_true_iff] at hb;subst hb;have hm:=(jg.1 ha).2;rw [brv,brk] at hm;exact aq.1 hr i hi hm.1
 intro hs f hf hfs;refine aq.2 fun i hi hb=>?_;by_cases hl:f.lhs.getLsbD i = true
 · exact aq.1 hfs i hi hl
 have hg:(⟨f.lhs,(1:AS) <<< i⟩:Fd) ∈ gl l:=by
  unfold gl;refine buy.2 ⟨oz f,brp.2 ⟨f,hf,rfl⟩, ?_⟩;unfold oz;refine brp.2 ⟨i,jg.2 ⟨hi, ?_⟩,rfl⟩;rw [brv,bsv,decide_eq_true hi,hb]
  cases hq:f.lhs.getLsbD i with
  | true=>exact absurd hq hl
  | false=>rfl
 have h1:((1:AS) <<< i).getLsbD i = decide (i = i):=lb i i hi;exact aq.1 (hs _ hg hfs) i hi (h1.trans (decide_eq_true rfl))
def adm {f:Fd} (h:imp l f = true) {s:AS} (hs:s7 l s) (hf:sub f.lhs s):sub f.rhs s :=
 b6 (of_decide_eq_true h) (l4 hs hf)
def b99 {i:Nat} {g:Fd} (hg:imp l g = true) (h1:sub g.lhs (l.getD i default).lhs) (h2:g.rhs = (l.getD i default).rhs):Eqv l (l.set i g):=fun s=>by
 constructor
 · intro hs f hf hfs
   rcases bu0 hf with hf | rfl
   · exact hs f hf hfs
   exact adm hg hs hfs
 intro hs f hf hfs;obtain ⟨j,hj,rfl⟩:=bry hf;by_cases e:i = j
 · subst e
   have hm:g ∈ l.set i g:=bud.2 ⟨i,by rw [btl];exact hj,by simp⟩;rw [brc,brb hj,bsn] at h1 h2;have:=hs g hm (b6 h1 hfs);rwa [h2] at this
 have hm:l[j] ∈ l.set i g:=bud.2 ⟨j,by rw [btl];exact hj,by rw [List.getElem_set_ne e]⟩;exact hs _ hm hfs
def am1 {i a:Nat}:Eqv l (eo i l a):=by
 unfold eo;split
 · rename_i hc
   rw [brk] at hc;exact b99 hc.2 ed rfl
 exact Eqv.refl l
def aiy {i:Nat}:∀ (m:List Nat) (l:List Fd),Eqv l (m.foldl (eo i) l)
 | [],l=>Eqv.refl l
 | a :: m,l=>am1.trans (aiy m _)
def abm (l:List Fd):∀ i,Eqv l (jj l i)
 | 0=>Eqv.refl l
 | i + 1=>by rw [uo];exact (abm l i).trans (aiy _ _)
def aww {i:Nat} (h:tx l i = true):Eqv l (d6 l i):=fun s=>by
 constructor
 · intro hs f hf
   exact hs f (a2g hf)
 intro hs f hf hfs;obtain ⟨j,hj,rfl⟩:=bry hf;by_cases e:j = i
 · subst e
   unfold tx at h;rw [brc,brb hj,bsn] at h;exact adm h hs hfs
 refine hs _ ?_ hfs;unfold d6;rw [brr];by_cases h2:j < i
 · exact .inl (List.mem_take_iff_getElem.2 ⟨j,by omega,rfl⟩)
 exact .inr (but.2 ⟨j - (i + 1),by omega,by congr 1;omega⟩)
def a67:∀ (f:Nat) (l:List Fd) (i:Nat),Eqv l (jx f l i)
 | 0,l,i=>Eqv.refl l
 | f + 1,l,i=>by
  unfold jx;split
  · split
    · rename_i h;exact (aww h).trans (a67 f _ _)
    exact a67 f _ _
  exact Eqv.refl l
def bd5 (l:List Fd):Eqv l (mw l):=by
 refine Eqv.trans ?_ (a67 _ _ _);unfold a03;refine Eqv.trans ?_ (ahv fun f=>l8.symm);refine Eqv.trans ?_ (abm _ _);unfold spl;exact (aju l).trans (ahv fun f=>l8.symm)
def s5 (l:List Fd) (s:AS):clo (mw l) s = clo l s:=((bd5 l).clo s).symm
end
end
section
def akk (l:List Fd) (ps:List AS) (t:AS):Prop:=∀ p ∈ ps,sub (clo l (t &&& p) &&& p) t
section
variable {l:List Fd}
def bc0 {z p:AS}:a4d l z p = false <-> sub (clo l (z &&& p) &&& p) z:=by
 unfold a4d a4u sub;rw [decide_eq_false_iff_not,Decidable.not_not,BitVec.and_comm p]
def aoc {a b c:AS} (h:sub a b):sub (a &&& c) (b &&& c):=np (b6 ed h) qk
variable {ps:List AS}
def ap2:∀ (n:Nat) (z:AS),4294967296 < n + z.toNat -> akk l ps (a0c l ps n z)
 | 0,z,h=>by have:=z.isLt;omega
 | n + 1,z,h=>by
  unfold a0c
  cases hf:ps.find? (a4d l z) with
  | none =>
   intro p hp;have:=bub.1 hf p hp;exact bc0.1 (by simpa using this)
  | some p =>
   have hm:=List.find?_some hf;have:=b68 hm;exact ap2 n _ bv9
def as0:∀ (n:Nat) (z:AS),sub z (a0c l ps n z)
 | 0,z=>fl z
 | n + 1,z=>by
  unfold a0c
  cases hf:ps.find? (a4d l z) with
  | none=>exact fl z
  | some p=>exact b6 qo (as0 n _)
def auo {t:AS} (ht:akk l ps t):∀ (n:Nat) (z:AS),sub z t -> sub (a0c l ps n z) t
 | 0,z,h=>h
 | n + 1,z,h=>by
  unfold a0c
  cases hf:ps.find? (a4d l z) with
  | none=>exact h
  | some p =>
   refine auo ht n _ (vc h ?_);have hp:=bus hf;refine b6 ?_ (ht p hp);unfold a4u;refine b6 ed ?_;rw [BitVec.and_comm];exact aoc (mz (aoc h))
def ack (l:List Fd) (ps:List AS) (z:AS):akk l ps (tw l ps z):=ap2 _ _ (by have:=z.isLt;omega)
def a8u {z:AS}:sub z (tw l ps z):=as0 _ _
def asq {z t:AS} (ht:akk l ps t) (h:sub z t):sub (tw l ps z) t:=auo ht _ _ h
def bke (l:List Fd) (s p:AS):AS:=s ||| (clo l (s &&& p) &&& p)
def bor (l:List Fd) (ps:List AS) (s:AS):AS:=ps.foldl (bke l) s
def PrI (l:List Fd) (ps:List AS) (z s:AS):Prop:=sub z s /\ sub s (tw l ps z)
def azp {z:AS}:tw l ps (tw l ps z) = tw l ps z:=dw (asq (ack l ps z) (fl _)) a8u
def az1 {a b:AS} (h:sub a b):sub (tw l ps a) (tw l ps b):=asq (ack l ps b) (b6 h a8u)
def alc {m:List Fd} (h:∀ f ∈ m,yn l ps f = true) (s:AS):sub (clo m s) (tw l ps s):=by
 refine l4 (fun f hf hfs=>?_) a8u;have h1:sub f.rhs (tw l ps f.lhs):=of_decide_eq_true (h f hf);refine b6 h1 ?_;have:=az1 (l:=l) (ps:=ps) hfs;rw [azp] at this;exact this
def ajw {m k:List Fd} (h:∀ f ∈ m,yn l ps f = true) (he:∀ s,clo k s = clo m s):∀ f ∈ k,yn l ps f = true:=fun f hf=>by
 refine decide_eq_true ?_;refine b6 ?_ (alc h f.lhs);rw [<- he];exact ij f hf lw
def apt:a4a l ps = true <-> ∀ f ∈ l,yn l ps f = true:=by
 unfold a4a;rw [bs2];constructor
 · intro h f hf
   obtain ⟨j,hj,rfl⟩:=bry hf;have:=h j (brw.2 hj);rwa [brc,brb hj] at this
 intro h j hj;have hj:=brw.1 hj;rw [brc,brb hj];exact h _ (brs hj)
def b38:a4a l ps = true <-> ∀ f ∈ mw l,yn l ps f = true:=by
 rw [apt];exact ⟨fun h=>ajw h (fun s=>s5 l s),fun h=>ajw h (fun s=>(s5 l s).symm)⟩
def bqt (n:Int) (l:List Fd) (i:Nat):List AS:=((c4 (aa n)).take i).filter fun s=>!gz l s
end
end
section
def bou (l:List Fd):Prop:=∀ f ∈ l,∀ i,i < 32 -> f.rhs.getLsbD i = true -> f.lhs.getLsbD i = false
section
variable {n:Int} {l:List Fd}
end
end
section
open Go.Proofs
def a91 {ps:List AS} {k:AS} (h:k ∈ ps):sub k (orL ps):=aq.2 fun i hi hb=>by
 unfold orL;rw [a2s,bsl];exact .inr (bsf.2 ⟨k,h,hb⟩)
section
variable {n:Int} {l:List Fd}
end
end
section
def zu {L:List AS} {x:AS}:x ∈ j9 L <-> x ∈ L /\ ∀ y ∈ L,sub x y -> x = y:=by
 unfold j9 a8m a3b;rw [bt4,pg,bsd,bt1];constructor
 · rintro ⟨h1,h2⟩
   refine ⟨h1,fun y hy hs=>Classical.byContradiction fun hne=>h2 y (pg.2 hy) ?_⟩;rw [brk,decide_eq_true_iff];exact ⟨hne,decide_eq_true hs⟩
 rintro ⟨h1,h2⟩;refine ⟨h1,fun y hy hc=>?_⟩;rw [brk,decide_eq_true_iff] at hc;exact hc.1 (h2 y (pg.1 hy) (of_decide_eq_true hc.2))
def acq {L:List AS}:∀ (n:Nat) (x:AS),x ∈ L -> 4294967296 - x.toNat <= n -> ∃ y ∈ j9 L,sub x y
 | 0,x,_,h=>by have:=x.isLt;omega
 | n + 1,x,hx,h=>by
  by_cases hm:x ∈ j9 L
  · exact ⟨x,hm,fl x⟩
  have:∃ y ∈ L,sub x y /\ x ≠ y:=by
   apply Classical.byContradiction;intro hn;exact hm (zu.2 ⟨hx,fun y hy hs=>Classical.byContradiction fun hne=>hn ⟨y,hy,hs,hne⟩⟩)
  obtain ⟨y,hy,hs,hne⟩:=this;have hlt:=xq hs hne;have hyl:=y.isLt;obtain ⟨z,hz,hyz⟩:=acq n y hy bv9;exact ⟨z,hz,b6 hs hyz⟩
def yy {L:List AS} {x:AS} (h:x ∈ L):∃ y ∈ j9 L,sub x y:=acq 4294967296 x h bv9
section
variable {n:Int} {l:List Fd}
def ajq (h:it n l (aa n) = true):∀ k,it n l (io n l (aa n) k) = true
 | 0=>h
 | k + 1=>by
  rw [rg];unfold a3e;split
  · assumption
  exact ajq h k
def afo (h:bj n l = 0):it n l (rkS n l (aa n)) = true:=by
 rw [(avj h (a0r h)).1];exact ajq (a0r h) _
def ash (h:bj n l = 0):∀ x ∈ ny n l,sub x (aa n):=fun x hx=>by
 have hp:∀ x ∈ wl n l,sub x (aa n):=fun x hx=>by
  unfold wl at hx;obtain ⟨f,hf,rfl⟩:=brp.1 hx;unfold gt at hf;rw [a0f h] at hf;obtain ⟨h1,h2⟩:=bgc (beh h) (b46 h) f hf;exact vc h1 h2
 unfold ny at hx;split at hx
 · exact hp x hx
 rcases brr.1 hx with hx | hx
 · exact hp x hx
 rw [bru] at hx;subst hx;exact (of_decide_eq_true (afo h)).2.1
def alr (h:bj n l = 0):∃ x ∈ ny n l,it n l x = true:=by
 unfold ny;split
 · rename_i hs
   unfold ni at hs;rw [bro] at hs;obtain ⟨f,hf,hk⟩:=bsf.1 hs;exact ⟨pt f,brp.2 ⟨f,hf,rfl⟩,hk⟩
 exact ⟨_,brr.2 (.inr (bru.2 rfl)),afo h⟩
def an2 (h:bj n l = 0):∃ x ∈ k7 n l,it n l x = true:=by
 obtain ⟨x,hx,hk⟩:=alr h;obtain ⟨y,hy,hs⟩:=yy hx;rw [a3x h];refine ⟨y,hy, ?_⟩;have hyf:=ash h y (zu.1 hy).1;refine decide_eq_true ⟨h,hyf,dw (a5g h hyf) ?_⟩;rw [<- (of_decide_eq_true hk).2.2];exact mz hs
def afg {k:List Fd} {s:AS} {f:Fd} (hf:f ∈ k) (hs:f.lhs = s):sub f.rhs (mgR k s):=by
 have:∀ (q:List Fd) (a:AS),(sub f.rhs a \/ f ∈ q) -> sub f.rhs (q.foldl (fun a f=>a ||| f.rhs) a):=by
  intro q
  induction q with
  | nil => intro a h; rcases h with h | h; · exact h
           cases h
  | cons g q ih =>
   intro a h;refine ih _ ?_
   rcases h with h | h
   · exact .inl (b6 h qo)
   rcases brm.1 h with rfl | h
   · exact .inl qj
   exact .inr h
 unfold mgR;exact this _ 0 (.inr (bt4.2 ⟨hf,decide_eq_true hs⟩))
def b77 (h:bj n l = 0) {f:Fd} (hf:f ∈ mw l):∃ x ∈ ny n l,sub f.rhs x:=by
 have hm:mgF (sb n l) f.lhs ∈ gt n l:=by
  unfold gt a05;rw [a0f h];exact brp.2 ⟨f.lhs,pg.2 (brp.2 ⟨f,hf,rfl⟩),rfl⟩
 refine ⟨pt (mgF (sb n l) f.lhs), ?_, ?_⟩
 · have:pt (mgF (sb n l) f.lhs) ∈ wl n l:=brp.2 ⟨_,hm,rfl⟩
   unfold ny;split
   · exact this
   exact brr.2 (.inl this)
 unfold pt mgF;refine b6 (afg (k:=sb n l) (by rw [a0f h];exact hf) rfl) qj
def b0g {L:List AS} {t:AS} (h:∀ x ∈ L,sub x t):sub (orL L) t:=aq.2 fun i hi hb=>by
 unfold orL at hb;rw [a2s,bsl] at hb
 rcases hb with hb | hb
 · simp at hb
 obtain ⟨x,hx,hxb⟩:=bsf.1 hb;exact aq.1 (h x hx) i hi hxb
def amh (h:bj n l = 0):orL (k7 n l) = aa n:=by
 rw [a3x h];refine dw (b0g fun x hx=>ash h x (zu.1 hx).1) ?_
 have hup:∀ x ∈ ny n l,sub x (orL (avt n l)):=fun x hx=>by
  obtain ⟨y,hy,hs⟩:=yy hx;exact b6 hs (a91 hy)
 obtain ⟨k,hk,hkk⟩:=alr h;have hc:clo l k = aa n:=(of_decide_eq_true hkk).2.2;rw [<- hc,<- s5];refine l4 (fun f hf _=>?_) (hup k hk);obtain ⟨x,hx,hs⟩:=b77 h hf;exact b6 hs (hup x hx)
end
end
end Go.Hx

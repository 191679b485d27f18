/- A part of the proof: Cc1 Cc2 Cc3 Ls1 Cs24 Cs26 Cs27 Cs28 Cs30 Cs31 Cs32 Cs33 Cs34 Cs35 Cs36 Cz1m Cs37 Cs40 Ls2 Ls3 Ls5 W0. -/
import Derived.Test.YteklilhbjjofbaaGreatDoorLb25
set_option linter.all false
namespace Go.Hx
section
def AgE (E:Int -> Int -> Prop) (a b:Rw) (s:AS):Prop:=∀ i:Nat,i < a.length -> ci s (i:Int) = true -> E (a.getD i default) (b.getD i default)
structure Mdl (N:Nat) (p m:List Fd) (E:Int -> Int -> Prop) (R:Rw -> Prop):Prop where
 refl:∀ x,E x x
 symm:∀ {x y},E x y -> E y x
 trans:∀ {x y z},E x y -> E y z -> E x z
 len:∀ {r},R r -> r.length = N
 cong:∀ {r r':Rw},R r -> r'.length = r.length -> (∀ i,i < r.length -> E (r.getD i default) (r'.getD i default)) -> R r'
 fd:∀ {x},x ∈ p -> ∀ {a b},R a -> R b -> AgE E a b x.lhs -> AgE E a b x.rhs
 mv:∀ {x},x ∈ m -> ∀ {a b},R a -> R b -> AgE E a b x.lhs -> R (cq a b (x.lhs ||| x.rhs))
def LE (N:Nat) (p m:List Fd) (l:List Rw) (x y:Int):Prop:=∀ E R,Mdl N p m E R -> (∀ r,r ∈ l -> R r) -> E x y
def LR (N:Nat) (p m:List Fd) (l:List Rw) (r:Rw):Prop:=∀ E R,Mdl N p m E R -> (∀ r,r ∈ l -> R r) -> R r
def arx (N:Nat) (p m:List Fd):Mdl N p m (fun _ _=>True) (fun r=>r.length = N) :=
 ⟨fun _=>trivial,fun _=>trivial,fun _ _=>trivial,fun h=>h,fun h e _=>e.trans h,fun _ _ _ _ _ _ _ _ _=>trivial,fun _ a b _ hb _=>(iw _ _ _).trans hb⟩
def a1e {N:Nat} {p m:List Fd} {l:List Rw} (hl:∀ r,r ∈ l -> r.length = N):Mdl N p m (LE N p m l) (LR N p m l) where
 refl x:=fun E R h _=>h.refl x
 symm h:=fun E R k kl=>k.symm (h E R k kl)
 trans h h2:=fun E R k kl=>k.trans (h E R k kl) (h2 E R k kl)
 len h:=h _ _ (arx N p m) hl
 cong h e h2:=fun E R k kl=>k.cong (h E R k kl) e fun i hi=>h2 i hi E R k kl
 fd hx _ _ ha hb hl:=fun i hi hs E R k kl=>k.fd hx (ha E R k kl) (hb E R k kl) (fun j hj hh=>hl j hj hh E R k kl) i hi hs
 mv hx _ _ ha hb hl:=fun E R k kl=>k.mv hx (ha E R k kl) (hb E R k kl) fun j hj hh=>hl j hj hh E R k kl
structure Ch (N:Nat) (p m:List Fd) (l0 l:List Rw) (σ:Int -> Int):Prop where
 rows:∀ r,r ∈ l -> LR N p m l0 r
 sym:∀ s,LE N p m l0 s (σ s)
 img:∀ r,r ∈ l0 -> r.map σ ∈ l
 fix:∀ r,r ∈ l -> ∀ z,z ∈ r -> σ z = z
 le:∀ s,σ s <= s
section
variable {N:Nat} {p m:List Fd} {l0 l l':List Rw} {σ σ':Int -> Int} {n:Int}
theorem Ch.start:Ch N p m l0 l0 id:=⟨fun r hr E R _ hl=>hl r hr,fun s E R k _=>k.refl s,fun r hr=>by rw [List.map_id];exact hr,fun _ _ _ _=>rfl,fun s=>Int.le_refl s⟩
theorem Ch.congr (h:Ch N p m l0 l σ) (e:∀ r,r ∈ l' <-> r ∈ l):Ch N p m l0 l' σ :=
 ⟨fun r hr=>h.rows r ((e r).1 hr),h.sym,fun r hr=>(e _).2 (h.img r hr),fun r hr=>h.fix r ((e r).1 hr),h.le⟩
def ld (hi lo z:Int):Int:=if z = hi then lo else z
section
variable {f:Int -> Int}
def gt {r:Rw} {i:Nat} (h:i < r.length):(r.map f).getD i default = f (r.getD i default):=by
 rw [b26,b2p,b25 h,b26,b25 h];rfl
theorem Ch.sub (hl0:∀ r,r ∈ l0 -> r.length = N) (h:Ch N p m l0 l σ) {hi lo:Int} (hE:LE N p m l0 hi lo) (hle:lo <= hi) (hin:∃ r,r ∈ l /\ lo ∈ r):Ch N p m l0 (l.map fun r=>r.map (ld hi lo)) (fun s=>ld hi lo (σ s)):=by
 have hm:=a1e (p:=p) (m:=m) hl0
 have hs:∀ z,LE N p m l0 z (ld hi lo z):=fun z=>by
  unfold ld;split
  · rename_i e;rw [e];exact hE
  exact hm.refl z
 refine ⟨fun r hr=>?_,fun s=>hm.trans (h.sym s) (hs _),fun r hr=>?_,fun r hr z hz=>?_,fun s=>?_⟩
 · obtain ⟨r0,h0,rfl⟩:=b32.1 hr
   exact hm.cong (h.rows r0 h0) b5f fun i hi=>by rw [gt hi];exact hs _
 · refine b32.2 ⟨_,h.img r hr, ?_⟩
   rw [List.map_map];rfl
 · obtain ⟨r0,h0,rfl⟩:=b32.1 hr
   obtain ⟨y,hy,rfl⟩:=b32.1 hz;obtain ⟨r1,h1,h2⟩:=hin;have e1:=h.fix r0 h0 y hy;have e2:=h.fix r1 h1 lo h2;by_cases e:y = hi
   · have e3:ld hi lo y = lo:=if_pos e
     show ld hi lo (σ (ld hi lo y)) = ld hi lo y;rw [e3,e2];unfold ld;split <;> rfl
   have e3:ld hi lo y = y:=if_neg e;show ld hi lo (σ (ld hi lo y)) = ld hi lo y;rw [e3,e1,e3]
 have h1:=h.le s
 have h2:ld hi lo (σ s) <= σ s:=by
  unfold ld;split <;> omega
 exact Int.le_trans h2 h1
def ahn {M:Nat -> Nat -> Int} {a b j:Nat}:cj l (eqM M a b j) = (cj l M).map fun r=>r.map (ld (hiI (M a j) (M b j)) (loI (M a j) (M b j))):=by
 unfold cj;rw [List.map_map];refine b3x fun i _=>?_;show _ = List.map _ (List.map _ _);rw [List.map_map];rfl
def ajx {M:Nat -> Nat -> Int} {a j:Nat} (ha:a < l.length) (hj:j < (l.getD a default).length):∃ r,r ∈ cj l M /\ M a j ∈ r :=
 a2x.2 ⟨a,j,ha,hj,rfl⟩
theorem Ch.eqMs (hl0:∀ r,r ∈ l0 -> r.length = N) {a b:Nat} (ha:a < l.length) (hb:b < l.length):∀ {js:List Nat} {M:Nat -> Nat -> Int} {σ:Int -> Int},Ch N p m l0 (cj l M) σ -> (∀ j,j ∈ js -> j < (l.getD a default).length /\ j < (l.getD b default).length /\ LE N p m l0 (M a j) (M b j)) ->
 ∃ σ',Ch N p m l0 (cj l (eqMs M a b js)) σ'
 | [],M,σ,h,_=>⟨σ,h⟩
 | j :: js,M,σ,h,hj=>by
  obtain ⟨h1,h2,h3⟩:=hj j b5f;have hm:=a1e (p:=p) (m:=m) hl0;have hlo:loI (M a j) (M b j) <= hiI (M a j) (M b j):=by unfold loI hiI;split <;> split <;> omega
  have hE:LE N p m l0 (hiI (M a j) (M b j)) (loI (M a j) (M b j)):=by
   rcases aow (M a j) (M b j) with e | e <;> rcases aha (M a j) (M b j) with f | f <;> rw [e,f]
   · exact hm.refl _
   · exact h3
   · exact hm.symm h3
   exact hm.refl _
  have hin:∃ r,r ∈ cj l M /\ loI (M a j) (M b j) ∈ r:=by
   rcases aha (M a j) (M b j) with f | f <;> rw [f]
   · exact ajx ha h1
   exact ajx hb h2
  have hq:=h.sub hl0 hE hlo hin;rw [<- ahn] at hq
  have hs:∀ z,LE N p m l0 z (if z = hiI (M a j) (M b j) then loI (M a j) (M b j) else z):=fun z=>by
   split
   · rename_i e;rw [e];exact hE
   exact hm.refl z
  exact Ch.eqMs hl0 ha hb (js:=js) hq fun k hk=>by
   obtain ⟨h4,h5,h6⟩:=hj k (by simp [hk]);exact ⟨h4,h5,hm.trans (hm.symm (hs (M a k))) (hm.trans h6 (hs (M b k)))⟩
def adn:cj l (be l) = l:=by
 refine kx (i9 _ _) fun i hi=>?_;rw [i9] at hi;rw [a7h hi];refine kx b5f fun k hk=>?_;simp only [b33,List.length_range] at hk;rw [b26,b2p,b38 hk];rfl
def ahb (hl0:∀ r,r ∈ l0 -> r.length = N) {a b:Rw} {s:AS} (h:gu a b s = true):AgE (LE N p m l0) a b s:=fun i hi hs=>by
 rw [of_decide_eq_true h i hi hs];exact (a1e hl0).refl _
def db {α:Type} [Inhabited α] {l:List α} {i:Nat} (h:i < l.length):l.getD i default ∈ l:=by
 rw [b26,b25 h];exact b2l h
def aky {a b:Rw} {s:AS} (hl:a.length = b.length) {z:Int} (hz:z ∈ cq a b s):z ∈ a \/ z ∈ b:=by
 unfold cq at hz;rw [b32] at hz;obtain ⟨i,hi,rfl⟩:=hz;have hi:=b2v.1 hi;split
 · exact .inl (db b5c)
 exact .inr (db hi)
def ag9 (l:List Rw) (p m:List Fd) (s:St):Prop:=s.2.2.1 < l.length /\ s.2.2.2 < l.length /\ (s.1 = false -> s.2.1 < p.length) /\ (s.1 = true -> s.2.1 < m.length)
theorem Ch.app (hl0:∀ r,r ∈ l0 -> r.length = n.toNat) (hT:tok n l = true) (hp:p.all (inU n) = true) (h:Ch n.toNat p m l0 l σ) {s:St} (hs:ag9 l p m s) (he:(bu n l p m s).2.2 = 0) :
 (bu n l p m s).1 = n /\ ∃ σ',Ch n.toNat p m l0 (bu n l p m s).2.1 σ':=by
 obtain ⟨mu,i,a,b⟩:=s;obtain ⟨ha,hb,hf,hv⟩:=hs;obtain ⟨h0,h1,h2,h3⟩:=ew hT;have ha:a < l.length:=ha;have hb:b < l.length:=hb;have hra:=h3 a ha;have hrb:=h3 b hb
 cases mu with
 | false =>
  have hi:i < p.length:=hf rfl;have e0:bu n l p m (false,i,a,b) = fdE n l a b (p.getD i default):=rfl;rw [e0] at he ⊢;by_cases hg:gu (l.getD a default) (l.getD b default) (p.getD i default).lhs = true
  · have e1:fdE n l a b (p.getD i default) = (n,ae (cj l (Go.Hx.eqMs (be l) a b (b6 (p.getD i default).rhs))),0):=if_pos hg
    rw [e1];refine ⟨rfl, ?_⟩;have hu:inU n (p.getD i default) = true:=b3d.1 hp _ (db hi);have hm:=a1e (p:=p) (m:=m) hl0;have hR:=hm.fd (db hi) (h.rows _ (db ha)) (h.rows _ (db hb)) (ahb hl0 hg)
    obtain ⟨σ',hσ⟩:=Ch.eqMs (p:=p) (m:=m) hl0 ha hb (js:=b6 (p.getD i default).rhs) (M:=be l) (σ:=σ) (by rw [adn];exact h) fun j hj=>by
     have h4:=a0v h0 h1 hu hj;have h5:=uz.1 hj;refine ⟨Nat.lt_of_lt_of_eq h4 hra.symm,Nat.lt_of_lt_of_eq h4 hrb.symm,hR j (Nat.lt_of_lt_of_eq h4 hra.symm) (by rw [ge h5.1];exact h5.2)⟩
    exact ⟨σ',hσ.congr fun r=>dy⟩
  have e1:fdE n l a b (p.getD i default) = (0,[],1):=if_neg hg;rw [e1] at he;exact absurd he b5i
 | true =>
  have hi:i < m.length:=hv rfl;have e0:bu n l p m (true,i,a,b) = mvE n l a b (m.getD i default):=rfl;rw [e0] at he ⊢;by_cases hg:gu (l.getD a default) (l.getD b default) (m.getD i default).lhs = true
  · have e1:mvE n l a b (m.getD i default) = ny n l (cq (l.getD a default) (l.getD b default) ((m.getD i default).lhs ||| (m.getD i default).rhs)):=if_pos hg
    rw [e1] at he ⊢;by_cases hbig:256 < (ae (l ++ [cq (l.getD a default) (l.getD b default) ((m.getD i default).lhs ||| (m.getD i default).rhs)])).length
    · have e2:ny n l (cq (l.getD a default) (l.getD b default) ((m.getD i default).lhs ||| (m.getD i default).rhs)) = (0,[],3):=if_pos hbig
      rw [e2] at he;exact absurd he b5i
    have e2:ny n l (cq (l.getD a default) (l.getD b default) ((m.getD i default).lhs ||| (m.getD i default).rhs)) = (n,ae (l ++ [cq (l.getD a default) (l.getD b default) ((m.getD i default).lhs ||| (m.getD i default).rhs)]),0):=if_neg hbig;rw [e2];refine ⟨rfl,σ, ?_⟩;have hm:=a1e (p:=p) (m:=m) hl0;have hR:=hm.mv (db hi) (h.rows _ (db ha)) (h.rows _ (db hb)) (ahb hl0 hg);refine ⟨fun r hr=>?_,h.sym,fun r hr=>dy.2 (b2i _ (h.img r hr)),fun r hr z hz=>?_,h.le⟩
    · rcases b2u.1 (dy.1 hr) with h4 | h4
      · exact h.rows r h4
      rw [b2q.1 h4];exact hR
    rcases b2u.1 (dy.1 hr) with h4 | h4
    · exact h.fix r h4 z hz
    rw [b2q.1 h4] at hz
    rcases aky b5c hz with h5 | h5
    · exact h.fix _ (db ha) z h5
    exact h.fix _ (db hb) z h5
  have e1:mvE n l a b (m.getD i default) = (0,[],1):=if_neg hg;rw [e1] at he;exact absurd he b5i
def a56 {P:Nat -> Nat -> Nat -> Bool} {I L:Nat} (h:dp P I L = none) {i a b:Nat} (hi:i < I) (ha:a < L) (hb:b < L):P i a b = false:=by
 unfold dp at h;rw [b4s] at h;have h1:=h i (b2v.2 hi);rw [b4s] at h1;have h2:=h1 a (b2v.2 ha);rw [Option.map_eq_none_iff,List.find?_eq_none] at h2;exact b2e.2 (h2 b (b2v.2 hb))
def aic (h:cz l p m = none):(∀ i,i < p.length -> ∀ a,a < l.length -> ∀ b,b < l.length -> d7 l (p.getD i default) a b = false) /\ ∀ i,i < m.length -> ∀ a,a < l.length -> ∀ b,b < l.length -> dg l (m.getD i default) a b = false:=by
 unfold cz at h;split at h
 · cases h
 rename_i e;rw [Option.map_eq_none_iff] at h;exact ⟨fun i hi a ha b hb=>a56 (P:=fun i a b=>d7 l (p.getD i default) a b) e hi ha hb,fun i hi a ha b hb=>a56 (P:=fun i a b=>dg l (m.getD i default) a b) h hi ha hb⟩
def qb {α:Type} [Inhabited α] {l:List α} {x:α} (h:x ∈ l):∃ i,i < l.length /\ l.getD i default = x:=by
 obtain ⟨i,hi,rfl⟩:=b34 h;exact ⟨i,hi,by rw [b26,b25 hi];rfl⟩
def alj {a b:Rw} {s:AS} (hl:a.length = b.length):cq (a.map f) (b.map f) s = (cq a b s).map f:=by
 unfold cq;rw [List.map_map,b33];refine b3x fun i hi=>?_;have hi:=b2v.1 hi;show _ = f (if ci s (i:Int) = true then a.getD i default else b.getD i default);split
 · rw [gt b5c]
 rw [gt hi]
theorem Ch.mdl (hT:tok n l = true) (hn:cz l p m = none) (σ:Int -> Int):Mdl n.toNat p m (fun x y=>σ x = σ y) (fun r=>r.length = n.toNat /\ r.map σ ∈ l):=by
 obtain ⟨hF,hM⟩:=aic hn;refine ⟨fun _=>rfl,fun h=>h.symm,fun h k=>h.trans k,fun h=>h.1,fun {r r'} h e h2=>⟨e.trans h.1, ?_⟩,fun {x} hx {a b} ha hb hl i hi hs=>?_,fun {x} hx {a b} ha hb hl=>⟨(iw _ _ _).trans hb.1, ?_⟩⟩
 · have:r'.map σ = r.map σ:=by
    refine kx (by simp [e]) fun i hi=>?_;rw [b33] at hi;rw [gt hi,gt b5c];exact (h2 i b5c).symm
   rw [this];exact h.2
 · obtain ⟨k,hk,rfl⟩:=qb hx
   obtain ⟨ia,hia,ea⟩:=qb ha.2;obtain ⟨ib,hib,eb⟩:=qb hb.2;have h1:=hF k hk ia hia ib hib;unfold d7 at h1;rw [ea,eb,w9 (fun j hj hs=>by rw [b33] at hj;rw [gt hj,gt (by rw [hb.1,<- ha.1];exact hj)];exact hl j hj hs),b4c,Bool.not_eq_false'] at h1;have h2:=of_decide_eq_true h1 i (by rw [b33];exact hi) hs;rw [gt hi,gt (by rw [hb.1,<- ha.1];exact hi)] at h2;exact h2
 obtain ⟨k,hk,rfl⟩:=qb hx;obtain ⟨ia,hia,ea⟩:=qb ha.2;obtain ⟨ib,hib,eb⟩:=qb hb.2;have h1:=hM k hk ia hia ib hib;unfold dg at h1;rw [ea,eb,w9 (fun j hj hs=>by rw [b33] at hj;rw [gt hj,gt (by rw [hb.1,<- ha.1];exact hj)];exact hl j hj hs),b4c,Bool.not_eq_false'] at h1;obtain ⟨r,hr,e⟩:=b3a.1 h1;rw [<- alj (by rw [ha.1,hb.1]),<- of_decide_eq_true e];exact hr
theorem Ch.has (h:Ch n.toNat p m l0 l σ) (hT:tok n l = true) (hl0:∀ r,r ∈ l0 -> r.length = n.toNat) (hn:cz l p m = none):(∀ x y,LE n.toNat p m l0 x y -> σ x = σ y) /\ ∀ r,LR n.toNat p m l0 r -> r.map σ ∈ l:=by
 have hm:=Ch.mdl (p:=p) (m:=m) hT hn σ;have hl:∀ r,r ∈ l0 -> r.length = n.toNat /\ r.map σ ∈ l:=fun r hr=>⟨hl0 r hr,h.img r hr⟩;exact ⟨fun x y e=>e _ _ hm hl,fun r e=>(e _ _ hm hl).2⟩
def a6e:∀ {r:Rw},(∀ z,z ∈ r -> f z = z) -> r.map f = r
 | [],_=>rfl
 | z :: r,h=>by rw [b3y,h z b5f,a6e fun y hy=>h y (by simp [hy])]
theorem Ch.mem (h:Ch n.toNat p m l0 l σ) (hT:tok n l = true) (hl0:∀ r,r ∈ l0 -> r.length = n.toNat) (hn:cz l p m = none) {r:Rw}:r ∈ l <-> LR n.toNat p m l0 r /\ r.map σ = r:=by
 constructor
 · intro hr
   exact ⟨h.rows r hr,a6e (h.fix r hr)⟩
 rintro ⟨h1,h2⟩;rw [<- h2];exact (h.has hT hl0 hn).2 r h1
end
end
end
section
def aw7:List (List Int) -> List Rw
 | []=>[[]]
 | c :: cs=>c.flatMap fun z=>(aw7 cs).map fun r=>z :: r
section
variable {N:Nat} {p m:List Fd} {l0 l:List Rw}
def aed {a b:Rw} {s:AS} {i:Nat} (h:i < b.length):(cq a b s).getD i default = if ci s (i:Int) = true then a.getD i default else b.getD i default:=by
 unfold cq;rw [b26,b2p,b38 h];rfl
def anz (C:Nat -> List Int) (hd:∀ i j z,z ∈ C i -> z ∈ C j -> i = j):Mdl N p m (fun x y=>x = y \/ ∃ i,x ∈ C i /\ y ∈ C i) (fun r=>r.length = N /\ ∀ i,i < N -> r.getD i default ∈ C i) where
 refl _:=.inl rfl
 symm h:=by
  rcases h with h | ⟨i,h,k⟩
  · exact .inl h.symm
  exact .inr ⟨i,k,h⟩
 trans h h2:=by
  rcases h with h | ⟨i,h,k⟩
  · rw [h];exact h2
  rcases h2 with h2 | ⟨j,h2,k2⟩
  · rw [<- h2];exact .inr ⟨i,h,k⟩
  have:=hd i j _ k h2;subst this;exact .inr ⟨i,h,k2⟩
 len h:=h.1
 cong h e h2:=⟨e.trans h.1,fun i hi=>by
  have h3:=h.2 i hi
  rcases h2 i (by rw [h.1];exact hi) with h4 | ⟨j,h4,h5⟩
  · rw [<- h4];exact h3
  have:=hd i j _ h3 h4;subst this
  exact h5⟩
 fd _ a b ha hb _:=fun i hi _=>.inr ⟨i,ha.2 i (by rw [<- ha.1];exact hi),hb.2 i (by rw [<- ha.1];exact hi)⟩
 mv _ a b ha hb _:=⟨(iw _ _ _).trans hb.1,fun i hi=>by
  rw [aed (by rw [hb.1];exact hi)];split
  · exact ha.2 i hi
  exact hb.2 i hi⟩
def ahh:Mdl N p m (fun x y=>0 <= x <-> 0 <= y) (fun r=>r.length = N /\ ∀ i,i < r.length -> 0 <= r.getD i default) where
 refl _:=Iff.rfl
 symm h:=h.symm
 trans h h2:=h.trans h2
 len h:=h.1
 cong h e h2:=⟨e.trans h.1,fun i hi=>(h2 i b5c).1 (h.2 i b5c)⟩
 fd _ a b ha hb _:=fun i hi _=>⟨fun _=>hb.2 i (by rw [hb.1,<- ha.1];exact hi),fun _=>ha.2 i hi⟩
 mv _ a b ha hb _:=⟨(iw _ _ _).trans hb.1,fun i hi=>by
  rw [iw] at hi;rw [aed hi];split
  · exact ha.2 i (by rw [ha.1,<- hb.1];exact hi)
  exact hb.2 i hi⟩
def agi (N:Nat) (p m:List Fd) (l0:List Rw):Prop:=∀ l,jn l -> (∀ r,r ∈ l -> LR N p m l0 r) -> l.length <= 256
end
section
variable {p m:List Fd} {l0 l:List Rw} {n:Int} {σ:Int -> Int}
def avc (h0:tok n l0 = true) (hS:agi n.toNat p m l0) (ho:jn l) (h:∀ r,r ∈ l -> LR n.toNat p m l0 r):tok n l = true:=by
 obtain ⟨h1,h2,_⟩:=ew h0;refine ajy h1 h2 (hS l ho h) (fun r hr=>?_) ho;have h3:=h r hr _ _ ahh fun r0 hr0=>⟨(jt h0 r0 hr0).1,fun i hi=>(jt h0 r0 hr0).2 _ (db hi)⟩;refine ⟨h3.1,fun z hz=>?_⟩;obtain ⟨i,hi,rfl⟩:=qb hz;exact h3.2 i hi
def amz {s:St} (h:(bu n l p m s).2.2 = 0):jn (bu n l p m s).2.1:=by
 unfold bu at *;split at h
 · rename_i e
   rw [if_pos e];unfold mvE ny at *;split at h
   · rename_i e2
     rw [if_pos e2];split at h
     · exact absurd h b5i
     rename_i e3;rw [if_neg e3];exact ef _
   exact absurd h b5i
 rename_i e;rw [if_neg e];unfold fdE at *;split at h
 · rename_i e2
   rw [if_pos e2];exact ef _
 exact absurd h b5i
theorem Ch.step (h0:tok n l0 = true) (hS:agi n.toNat p m l0) (hp:p.all (inU n) = true) (hT:tok n l = true) (h:Ch n.toNat p m l0 l σ) {s:St} (hs:ag9 l p m s) (he:(bu n l p m s).2.2 = 0) :
 ∃ l' σ',bu n l p m s = (n,l',0) /\ tok n l' = true /\ Ch n.toNat p m l0 l' σ':=by
 obtain ⟨h1,σ',h2⟩:=Ch.app (fun r hr=>(jt h0 r hr).1) hT hp h hs he;have h3:=avc h0 hS (amz he) h2.rows;refine ⟨_,σ', ?_,h3,h2⟩
 conv=>lhs;rw [<- Prod.eta (bu n l p m s),<- Prod.eta (bu n l p m s).2,h1,he]
def ael {s:St} (h:qo l p m s):ag9 l p m s:=by
 obtain ⟨h1,h2,h3⟩:=h;refine ⟨h1,h2,fun e=>?_,fun e=>?_⟩
 · rcases h3 with ⟨_,h,_⟩ | ⟨h,_⟩
   · exact h
   rw [e] at h;cases h
 rcases h3 with ⟨h,_⟩ | ⟨_,h,_⟩
 · rw [e] at h;cases h
 exact h
theorem Ch.code (h0:tok n l0 = true) (hS:agi n.toNat p m l0) (hp:p.all (inU n) = true) (hT:tok n l = true) (h:Ch n.toNat p m l0 l σ) {s:St} (hs:qo l p m s):(bu n l p m s).2.2 = 0:=by
 rcases abv hT hp hs with e | ⟨l',e,_⟩
 · obtain ⟨mu,i,a,b⟩:=s
   obtain ⟨ha,hb,hs | hs⟩:=hs
   · obtain ⟨h1,h2,h3⟩:=hs
     cases h1;have h4:bu n l p m (false,i,a,b) = fdE n l a b (p.getD i default):=rfl;have hg:=(ag3 hT (b3d.1 hp _ (db h2)) ha hb h3).1;have hg:fdE n l a b (p.getD i default) = (n,fdL l a b (p.getD i default),0):=hg;rw [h4,hg] at e ⊢
   obtain ⟨h1,h2,h3⟩:=hs;cases h1;have h4:bu n l p m (true,i,a,b) = mvE n l a b (m.getD i default):=rfl;have h5:dg l (m.getD i default) a b = true:=h3;unfold dg at h5;rw [b2h] at h5;have h6:mvE n l a b (m.getD i default) = ny n l (cq (l.getD a default) (l.getD b default) ((m.getD i default).lhs ||| (m.getD i default).rhs)):=if_pos h5.1;have hl0:∀ r,r ∈ l0 -> r.length = n.toNat:=fun r hr=>(jt h0 r hr).1
   have h7:=hS (ae (l ++ [cq (l.getD a default) (l.getD b default) ((m.getD i default).lhs ||| (m.getD i default).rhs)])) (ef _) fun r hr=>by
    rcases b2u.1 (dy.1 hr) with h8 | h8
    · exact h.rows r h8
    rw [b2q.1 h8];exact (a1e hl0).mv (db h2) (h.rows _ (db ha)) (h.rows _ (db hb)) (ahb hl0 h5.1)
   rw [h4,h6];unfold ny;rw [if_neg b5c]
 rw [e]
def TrZ (n:Int) (p m:List Fd) (lend:List Rw):List Rw -> List St -> Prop
 | l,[]=>l = lend
 | l,s :: r=>tok n l = true /\ qo l p m s /\ ∃ l',bu n l p m s = (n,l',0) /\ ¬ l' = l /\ TrZ n p m lend l' r
end
def stC (n:Int) (ps:List AS) (c:Nat):List Int:=if c < n.toNat then (List.range ps.length).map fun i=>stV n i (ps.getD i default) c else []
section
variable {n:Int} {ps:List AS} {p m:List Fd}
def aqb (h0:0 <= n) {i c:Nat} {q:AS} (hc:c < n.toNat):stV n i q c % n = (c:Int):=by
 unfold stV;split
 · exact Int.emod_eq_of_lt b5c b5c
 have e:n + (i:Int) * n + (c:Int) = (c:Int) + n * (1 + (i:Int)):=by rw [Int.mul_add,Int.mul_one,Int.mul_comm (i:Int) n];omega
 rw [e,Int.add_mul_emod_self_left];exact Int.emod_eq_of_lt b5c b5c
def a7f (h0:0 <= n) {c:Nat} {z:Int} (h:z ∈ stC n ps c):c < n.toNat /\ z % n = (c:Int):=by
 unfold stC at h;split at h
 · rename_i hc
   obtain ⟨i,_,rfl⟩:=b32.1 h;exact ⟨hc,aqb h0 hc⟩
 simp at h
def apq (h0:0 <= n):∀ i j z,z ∈ stC n ps i -> z ∈ stC n ps j -> i = j:=fun i j z h k=>by
 have h1:=(a7f h0 h).2;have h2:=(a7f h0 k).2;omega
def a4y {r:Rw} (hr:r ∈ ai n ps):r.length = n.toNat /\ ∀ i,i < n.toNat -> r.getD i default ∈ stC n ps i:=by
 unfold ai at hr;obtain ⟨k,hk,rfl⟩:=b32.1 hr;refine ⟨a7g _ _ _,fun i hi=>?_⟩;rw [a9z hi];unfold stC;rw [if_pos hi];exact b32.2 ⟨k,hk,rfl⟩
end
end
section
section
variable {n:Int} {ps:List AS} {p m:List Fd} {l l0:List Rw} {σ:Int -> Int}
def aja {N:Nat} {l l':List Rw} (h:∀ r,r ∈ l <-> r ∈ l') {r:Rw}:LR N p m l r <-> LR N p m l' r :=
 ⟨fun k E R hm hl=>k E R hm fun r hr=>hl r ((h r).1 hr),fun k E R hm hl=>k E R hm fun r hr=>hl r ((h r).2 hr)⟩
def aje (h0:0 <= n) {c:Nat} {z:Int} (h:z ∈ stC n ps c):z = (c:Int) \/ n <= z:=by
 unfold stC at h;split at h
 · obtain ⟨i,_,rfl⟩:=b32.1 h
   unfold stV;split
   · exact .inl rfl
   right;have:=Int.mul_nonneg (show (0:Int) <= (i:Int) by omega) h0;omega
 simp at h
theorem Ch.first (h0:0 <= n) (h:Ch n.toNat p m (ae (ai n ps)) l σ):(br n).map σ = br n:=by
 refine a6e fun z hz=>?_;unfold br at hz;obtain ⟨c,hc,rfl⟩:=b32.1 hz;have hc:=b2v.1 hc;have h1:=h.sym (c:Int) _ _ (anz (stC n ps) (apq h0)) fun r hr=>a4y (dy.1 hr)
 rcases h1 with h1 | ⟨i,h1,h2⟩
 · exact h1.symm
 have h3:=(a7f h0 h1).2;have h4:=Int.emod_eq_of_lt (a:=(c:Int)) (b:=n) b5c b5c;have h5:i = c:=by omega
 subst h5;have h6:=h.le (i:Int)
 rcases aje h0 h2 with h7 | h7
 · exact h7
 omega
def qk {r:Rw}:(l.any fun x=>decide (x = r)) = decide (r ∈ l):=by
 rw [b51,b3a,decide_eq_true_iff];constructor
 · rintro ⟨x,hx,e⟩
   rw [<- of_decide_eq_true e];exact hx
 intro h;exact ⟨r,h,decide_eq_true rfl⟩
def swI (n z:Int):Int:=if n <= z /\ z < 2 * n then z + n else if 2 * n <= z /\ z < 3 * n then z - n else z
abbrev b14 (n:Int) (x:Fd):Fd:=⟨x.lhs,bi n &&& ~~~(x.lhs ||| x.rhs)⟩
end
end
section
section
variable {n:Int} {p m:List Fd} {l0 l:List Rw} {σ:Int -> Int}
def amw (hT:tok n l = true) (hp:p.all (inU n) = true) (hm:m = []) {s:St} (hs:qo l p m s):(bu n l p m s).2.2 = 0:=by
 obtain ⟨mu,i,a,b⟩:=s;obtain ⟨ha,hb,hs | hs⟩:=hs
 · obtain ⟨h1,h2,h3⟩:=hs
   cases h1;have h4:bu n l p m (false,i,a,b) = fdE n l a b (p.getD i default):=rfl;have hg:fdE n l a b (p.getD i default) = (n,fdL l a b (p.getD i default),0):=(ag3 hT (b3d.1 hp _ (db h2)) ha hb h3).1;rw [h4,hg]
 obtain ⟨_,h2,_⟩:=hs;subst hm;exact absurd h2 (b2c _)
def akb (hl0:∀ r,r ∈ l0 -> r.length = n.toNat) (hp:p.all (inU n) = true) (Z:List Int):∀ (F:Nat) (l:List Rw) (acc:List St) (σ:Int -> Int),tok n l = true -> Ch n.toNat p m l0 l σ -> Cov Z l -> muC Z l < F ->
 (f5 F n l p m acc = ([],(0,[]),3) /\ ¬ m = []) \/ ∃ sts lend σ',f5 F n l p m acc = (acc ++ sts,(n,lend),0) /\ Ch n.toNat p m l0 lend σ' /\ tok n lend = true /\ cz lend p m = none /\ TrZ n p m lend l sts:=by
 intro F
 induction F with
 | zero=>intro _ _ _ _ _ _ h;exact absurd h (b2c _)
 | succ F ih =>
  intro l acc σ hT hC hZ hF
  cases hn:cz l p m with
  | none=>exact .inr ⟨[],l,σ,by rw [a59 b5c hn,b3b],hC,hT,hn,rfl⟩
  | some s =>
   have hs:=a19 hn
   rcases abv hT hp hs with e | ⟨l',e,hT',h3⟩
   · left
     refine ⟨a5h b5c hn e b5i,fun hm=>?_⟩;have:=amw hT hp hm hs;rw [e] at this;exact absurd this b5i
   obtain ⟨h4,h5⟩:=h3 Z hZ;obtain ⟨_,σ',hC'⟩:=Ch.app hl0 hT hp hC (ael hs) (by rw [e]);rw [e] at hC'
   rcases ih l' (acc ++ [s]) σ' hT' hC' h4 b5c with ⟨q,q0⟩ | ⟨sts,lend,σ2,q1,q2,q3,q4,q5⟩
   · left
     exact ⟨by rw [vd b5c hn e,Nat.add_sub_cancel,q],q0⟩
   right;refine ⟨s :: sts,lend,σ2, ?_,q2,q3,q4,hT,hs,l',e,fun e=>?_,q5⟩
   · rw [vd b5c hn e,Nat.add_sub_cancel,q1,b3g]
     rfl
   subst e;omega
def akc (hT:tok n l = true) (hb:bj n p m = 0):(fh FU n l p m = ([],(0,[]),3) /\ ¬ m = []) \/ ∃ sts lend σ,fh FU n l p m = (sts,(n,lend),0) /\ Ch n.toNat p m l lend σ /\ tok n lend = true /\ cz lend p m = none /\ TrZ n p m lend l sts:=by
 have hck:ckE n l p m = 0:=(if_pos hT).trans hb;rw [oo hck]
 rcases akb (fun r hr=>(jt hT r hr).1) (ov hb).2.2.2.1 l.flatten FU l [] id hT Ch.start (ab8 l) (aar hT) with h | ⟨sts,lend,σ',q1,q⟩
 · exact .inl h
 exact .inr ⟨sts,lend,σ',by rw [q1,b4r],q⟩
def trL (n:Int) (p m:List Fd):List Rw -> List St -> List (List Rw)
 | l,[]=>[l]
 | l,s :: r=>l :: trL n p m (bu n l p m s).2.1 r
def a6v:∀ {sts:List St} {l:List Rw},(trL n p m l sts).length = sts.length + 1
 | [],_=>rfl
 | s :: r,l=>by unfold trL;rw [b3m,a6v,b3m]
def ad1:∀ {sts:List St} {l lend:List Rw},TrZ n p m lend l sts -> lend ∈ trL n p m l sts
 | [],l,lend,h=>by
  have h:l = lend:=h;subst h;simp [trL]
 | s :: r,l,lend,h=>by
  obtain ⟨_,_,l',e,_,h⟩:=h;unfold trL;rw [e];exact b3f _ (ad1 h)
def aji (hl0:∀ r,r ∈ l0 -> r.length = n.toNat) (hp:p.all (inU n) = true):∀ {sts:List St} {l lend:List Rw} {σ:Int -> Int},TrZ n p m lend l sts -> tok n lend = true -> Ch n.toNat p m l0 l σ -> ∀ t,t ∈ trL n p m l sts -> ∃ σ,Ch n.toNat p m l0 t σ
 | [],l,lend,σ,h,_,hC,t,ht=>by
  rw [b2q.1 (show t ∈ [l] from ht)];exact ⟨σ,hC⟩
 | s :: r,l,lend,σ,h,hTe,hC,t,ht=>by
  obtain ⟨hT,hs,l',e,_,h⟩:=h;unfold trL at ht;rw [e] at ht
  rcases b2f.1 ht with rfl | ht
  · exact ⟨σ,hC⟩
  obtain ⟨_,σ',hC'⟩:=Ch.app hl0 hT hp hC (ael hs) (by rw [e]);rw [e] at hC';exact aji hl0 hp h hTe hC' t ht
end
section
variable {n:Int} {ps:List AS} {p m:List Fd}
def yc (h0:0 <= n) (h16:n <= 16) (hk:ps.length <= 64):tok n (ae (ai n ps)) = true:=by
 refine zm h0 h16 ?_ fun r hr=>?_
 · have:=uj (ai n ps)
   rw [l5] at this;omega
 obtain ⟨h1,h2⟩:=a4y hr;refine ⟨h1,fun z hz=>?_⟩;obtain ⟨i,hi,rfl⟩:=qb hz
 rcases aje h0 (h2 i b5c) with h3 | h3 <;> omega
def zt (hk:ps.length <= 64) (hb:bj n p m = 0) :
 (fh FU n (ae (ai n ps)) p m = ([],(0,[]),3) /\ ¬ m = []) \/ ∃ sts lend,fh FU n (ae (ai n ps)) p m = (sts,(n,lend),0) /\ (br n ∈ lend <-> LR n.toNat p m (ai n ps) (br n)) /\
  TrZ n p m lend (ae (ai n ps)) sts /\ tok n lend = true /\ ((∃ t,t ∈ trL n p m (ae (ai n ps)) sts /\ br n ∈ t) <-> br n ∈ lend):=by
 obtain ⟨h0,h16,_,hp,_⟩:=ov hb;have hT:=yc h0 h16 hk;have hl0:∀ r,r ∈ ae (ai n ps) -> r.length = n.toNat:=fun r hr=>(jt hT r hr).1
 rcases akc hT hb with h | ⟨sts,lend,σ,h1,h2,h3,h4,h5⟩
 · exact .inl h
 right
 have hf:br n ∈ lend <-> LR n.toNat p m (ae (ai n ps)) (br n):=by
  rw [h2.mem h3 hl0 h4];exact ⟨fun h=>h.1,fun h=>⟨h,h2.first h0⟩⟩
 refine ⟨sts,lend,h1,by rw [hf,aja (l':=ai n ps) fun r=>dy],h5,h3, ?_⟩;constructor
 · rintro ⟨t,ht,hft⟩
   obtain ⟨σ',hC⟩:=aji hl0 hp h5 h3 Ch.start t ht;exact hf.2 (hC.rows _ hft)
 intro h;exact ⟨lend,ad1 h5,h⟩
end
end
section
section
variable {n:Int} {l:List Fd}
end
def a6l {α β:Type} [Inhabited α] {f:α -> β} {l:List α} {i:Nat} (h:i < l.length):(l.take (i + 1)).map f = (l.take i).map f ++ [f (l.getD i default)]:=by
 rw [bz h,List.map_append];rfl
structure Dps where
 n:BitVec 8
 l:List Dp
deriving Inhabited
def Dps.num (d:Dps):Int:=((d.n.toNat % 7:Nat):Int)
def Dps.fds (d:Dps):List Fd:=d.l.map (Dp.fd d.num)
def Dps.c (d:Dps):Nat -> PV
 | 0=>.raw (.int .u8 (d.n.toNat:Int))
 | 1=>dpl d.l
 | _=>.any
abbrev Dps.pc (d:Dps):PC:=.agg [d.c 0,d.c 1]
end
section
def noA (s:AS) (a:Nat):AS:=s &&& ~~~((1:AS) <<< a)
def at6 (n:Int) (l:List Fd) (s:AS) (a:Nat):AS:=if a7b n l (noA s a) = true then noA s a else s
def awi (n:Int) (l:List Fd) (s:AS) (k:Nat):AS:=(List.range k).foldl (fun s j=>at6 n l s (n.toNat - 1 - j)) s
def rkE (n:Int) (l:List Fd) (s:AS):Int:=if ct n l = 0 then (if a7b n l s = true then 0 else 1) else ct n l
def rkS (n:Int) (l:List Fd) (s:AS):AS:=if rkE n l s = 0 then awi n l s n.toNat else 0
def aw4 (n:Int) (l:List Fd) (s:AS):Bool:=a7b n l s && (List.range n.toNat).all fun a=>!(s.getLsbD a && a7b n l (noA s a))
def awn (n:Int) (l:List Fd) (i:Nat):List AS:=((List.range i).map (BitVec.ofNat 32)).filter (aw4 n l)
def aoe (n:Int) (l:List Fd):List AS:=if ct n l = 0 then ord (awn n l (2 ^ n.toNat)) else []
end
section
def bC:Bool -> Nat -> PV:=fun b _=>.raw (.bool b)
def an9 (n:Int) (l:List Fd) (k:Nat):Bool:=decide (clo l (BitVec.ofNat 32 k) = bi n)
def axo (n:Int) (l:List Fd) (i:Nat):List Bool:=(List.range (2 ^ n.toNat)).map fun k=>decide (k < i) && an9 n l k
def b1a (n:Int) (l:List Fd):List Bool:=axo n l (2 ^ n.toNat)
end
section
section
variable {n:Int} {l:List Fd}
def okA (n:Int) (l:List Fd) (i a:Nat):Bool:=an9 n l i && (List.range a).all fun b=>!(i.testBit b && an9 n l (i ^^^ 2 ^ b))
section
variable {i a:Nat} (hv:ct n l = 0) (hi:i < 2 ^ n.toNat) (ha:(a:Int) < n) (hx:i ^^^ 2 ^ a < 2 ^ n.toNat)
include hv hi ha hx
end
end
end
section
def afv (s:AS):Nat -> AS -> List AS
 | 0,_=>[]
 | n + 1,x=>if x = 0 then [] else x :: afv s n ((x - 1) &&& s)
def a92 (s:AS):List AS:=0 :: afv s (s.toNat + 1) s
def sub_zero (s:AS):sub 0 s:=du.2 fun i hi h=>by simp at h
def TsI (s:AS) (x:Nat × List AS × AS):Prop:=x.2.1 ++ afv s x.1 x.2.2 = a92 s /\ x.2.2.toNat < x.1 /\ x.2.1.length + x.1 = s.toNat + 2
def ac8 (l:List Fd) (p s:AS):Bool:=decide (sub p (clo l s))
def ayy (l:List Fd) (p x:AS):Bool:=(List.range 32).all fun a=>!(x.getLsbD a && ac8 l p (noA x a))
def b1i (l:List Fd) (p x r:AS):Prop:=sub r x /\ ∀ a,a < 32 -> x.getLsbD a = true -> r.getLsbD a = true \/ ac8 l p (noA x a) = false
def ans (l:List Fd) (p x:AS):Bool:=ac8 l p x && ayy l p x
def ajc (l:List Fd) (p:AS):AS:=orL ((a92 p).filter (ans l p))
def afj {k:Nat}:∀ {ps:List AS} {s:AS},(ps.foldl (· ||| ·) s).getLsbD k = (s.getLsbD k || ps.any fun x=>x.getLsbD k)
 | [],s=>by simp
 | x :: ps,s=>by
  rw [List.foldl_cons,afj,b4k,List.any_cons,Bool.or_assoc]
def b01 (l:List Fd) (p:AS) (i:Nat):AS:=orL (((a92 p).take i).filter (ans l p))
end
section
def b1p (l:List Fd) (p x:AS) (a:Nat):Bool:=(List.range a).all fun b=>!(x.getLsbD b && ac8 l p (noA x b))
def azf (i:Nat):List AS:=(List.range i).map (BitVec.ofNat 32)
def prQ (l:List Fd) (p x:AS):Bool:=decide (sub x p) && ans l p x
def azx (l:List Fd) (p:AS) (i:Nat):AS:=orL ((azf i).filter (prQ l p))
section
variable {l:List Fd} {p:AS} {i:Nat}
end
def axz (l:List Fd) (p x:AS):Bool:=!ac8 l p x && decide (((clo l x &&& p) &&& ~~~x) &&& ~~~ajc l p ≠ 0)
def aw2 (l:List Fd) (p:AS):Bool:=!(a92 p).any (axz l p)
def aza (n:Int) (l:List Fd) (p:AS):Int:=if ct n l = 0 then (if sub p (bi n) then 0 else 1) else ct n l
def b1b (n:Int) (l:List Fd) (p:AS):Bool:=decide (aza n l p = 0) && aw2 l p
end
section
section
variable {n:Int} {l:List Fd}
def av6 (n:Int) (l:List Fd) (f:Fd):Bool:=decide (clo l f.lhs ≠ bi n) && decide (f.rhs &&& ~~~ajc l (bi n) ≠ 0)
def b03 (n:Int) (l:List Fd) (i:Nat):List Fd:=((afu n l).take i).filter (av6 n l)
def b0o (n:Int) (l:List Fd):List Fd:=(afu n l).filter (av6 n l)
end
end
section
def ayp (l:List Fd) (pr k:AS):Bool:=(List.range 32).all fun a=>!k.getLsbD a || decide (sub (clo l (noA k a)) pr)
def azs (n:Int) (l:List Fd):Bool:=(aoe n l).all (ayp l (orL (aoe n l)))
def b1t (n:Int) (l:List Fd):Bool:=decide (ct n l = 0) && azs n l
section
variable {l:List Fd} {pr k:AS}
def b0y (l:List Fd) (pr k r:AS):Prop:=sub r k /\ ∀ a,a < 32 -> k.getLsbD a = true -> r.getLsbD a = true \/ sub (clo l (noA k a)) pr
def b1y (l:List Fd) (pr k:AS) (s:Nat):Prop:=∀ j,j < s -> sub (BitVec.ofNat 32 j) k -> sub (clo l (BitVec.ofNat 32 j)) pr
end
section
variable {n:Int} {l:List Fd}
end
end
section
def mgR (l:List Fd) (s:AS):AS:=(l.filter fun f=>decide (f.lhs = s)).foldl (fun a f=>a ||| f.rhs) 0
def mgF (l:List Fd) (s:AS):Fd:=⟨s,mgR l s⟩
def aym (l:List Fd):List Fd:=(ord (l.map Fd.lhs)).map (mgF l)
end
section
open Go.Proofs
def b0b (t:AS) (l:List Fd):Prop:=∀ x ∈ l,sub x.rhs t
def ahq (n:Int) (l:List Fd):List Fd:=aym (afu n l)
def pt (f:Fd):AS:=f.lhs ||| f.rhs
section
variable {n:Int} {l:List Fd}
def aob (n:Int) (l:List Fd) (i:Nat):Bool:=((ahq n l).take i).any fun f=>a7b n l (pt f)
def ahj (n:Int) (l:List Fd):List AS:=(ahq n l).map pt
def azo (n:Int) (l:List Fd):List AS:=ad5 (if aob n l (ahq n l).length = true then ahj n l else ahj n l ++ [rkS n l (bi n)])
def b10 (n:Int) (l:List Fd):List AS:=if ct n l = 0 then azo n l else []
def b1o (n:Int) (l:List Fd):List AS:=if aob n l (ahq n l).length = true then ahj n l else ahj n l ++ [rkS n l (bi n)]
end
end
section
def Eqv (l k:List Fd):Prop:=∀ s,ow l s <-> ow k s
theorem Eqv.refl (l:List Fd):Eqv l l:=fun s=>Iff.rfl
theorem Eqv.trans {a b c:List Fd} (h:Eqv a b) (k:Eqv b c):Eqv a c:=fun s=>(h s).trans (k s)
theorem Eqv.clo {l k:List Fd} (h:Eqv l k) (s:AS):clo l s = clo k s :=
 nx (a7o ((h _).2 zd) akj) (a7o ((h _).1 zd) akj)
end
section
def b0q (l:List Fd) (ps:List AS) (t:AS):Prop:=∀ p ∈ ps,sub (clo l (t &&& p) &&& p) t
def axc (l:List Fd) (s p:AS):AS:=s ||| (clo l (s &&& p) &&& p)
def azz (l:List Fd) (ps:List AS) (s:AS):AS:=ps.foldl (axc l) s
def PrI (l:List Fd) (ps:List AS) (z s:AS):Prop:=sub z s /\ sub s (amv l ps z)
def b1c (n:Int) (l:List Fd) (i:Nat):List AS:=((a90 (bi n)).take i).filter fun s=>!s3 l s
end
section
def b00 (l:List Fd):Prop:=∀ f ∈ l,∀ i,i < 32 -> f.rhs.getLsbD i = true -> f.lhs.getLsbD i = false
section
variable {n:Int} {l:List Fd}
end
end
section
open Go.Proofs
def apo {ps:List AS} {k:AS} (h:k ∈ ps):sub k (orL ps):=du.2 fun i hi hb=>by
 unfold orL;rw [afj,b3p];exact .inr (b3a.2 ⟨k,h,hb⟩)
section
variable {n:Int} {l:List Fd}
end
end
section
def an0 (E:Int -> Int -> Prop) (R:Rw -> Prop) (s:AS):Prop:=∃ r,R r /\ ∀ i:Nat,i < r.length -> ci s (i:Int) = true -> E (r.getD i default) (i:Int)
section
variable {N:Nat} {p m:List Fd} {E:Int -> Int -> Prop} {R:Rw -> Prop}
def alz {s t:AS} (h:sub s t) {i:Nat} (hi:ci s (i:Int) = true):ci t (i:Int) = true:=by
 by_cases hl:i < 32
 · rw [ge hl] at hi ⊢
   exact du.1 h i hl hi
 rw [u6 b5c] at hi;cases hi
def an0.mono {s t:AS} (h:an0 E R t) (hs:sub s t):an0 E R s:=by
 obtain ⟨r,h1,h2⟩:=h;exact ⟨r,h1,fun i hi hh=>h2 i hi (alz hs hh)⟩
end
section
variable {n:Int} {p m:List Fd} {ps:List AS}
end
end
section
def lvE (n:Int) (ps:List AS):Int:=if n < 0 \/ 8 < n then 7 else if 64 < ps.length then 3 else if ps.length = 0 \/ ¬ orL ps = bi n then 1 else 0
section
variable {n:Int} {ps:List AS} {p m:List Fd}
def a93 (h:n < 0 \/ 8 < n):lvE n ps = 7:=if_pos h
def aol (h:¬ (n < 0 \/ 8 < n)) (h2:64 < ps.length):lvE n ps = 3:=by unfold lvE;rw [if_neg h,if_pos h2]
def a8u (h:¬ (n < 0 \/ 8 < n)) (h2:¬ 64 < ps.length) (h3:ps.length = 0 \/ ¬ orL ps = bi n):lvE n ps = 1:=by unfold lvE;rw [if_neg h,if_neg h2,if_pos h3]
def aoq (h:¬ (n < 0 \/ 8 < n)) (h2:¬ 64 < ps.length) (h3:¬ (ps.length = 0 \/ ¬ orL ps = bi n)):lvE n ps = 0:=by unfold lvE;rw [if_neg h,if_neg h2,if_neg h3]
def o4 (h:lvE n ps = 0):0 <= n /\ n <= 8 /\ ps.length <= 64 /\ 0 < ps.length /\ orL ps = bi n:=by
 unfold lvE at h;split at h
 · exact absurd h b5i
 split at h
 · exact absurd h b5i
 split at h
 · exact absurd h b5i
 rename_i h1 h2 h3;refine ⟨by omega,by omega,by omega,by omega, ?_⟩;apply Classical.byContradiction;intro e;exact h3 (.inr e)
def lsT (n:Int) (ps:List AS) (p m:List Fd):List St × (Int × List Rw) × Int:=fh FU n (ae (ai n ps)) p m
def lsC (n:Int) (ps:List AS) (p m:List Fd):Int:=if lvE n ps = 0 then (if bj n p m = 0 then (lsT n ps p m).2.2 else bj n p m) else lvE n ps
def lsB (n:Int) (ps:List AS) (p m:List Fd):Bool:=decide (lsC n ps p m = 0) && (lsT n ps p m).2.1.2.any fun r=>decide (r = br n)
def awy (h:¬ lvE n ps = 0):lsC n ps p m = lvE n ps /\ lsB n ps p m = false:=by
 have e:lsC n ps p m = lvE n ps:=if_neg h;exact ⟨e,by unfold lsB;rw [e,decide_eq_false h];rfl⟩
def awg (h:lvE n ps = 0) (h2:¬ bj n p m = 0):lsC n ps p m = bj n p m /\ lsB n ps p m = false:=by
 have e:lsC n ps p m = bj n p m:=(if_pos h).trans (if_neg h2);exact ⟨e,by unfold lsB;rw [e,decide_eq_false h2];rfl⟩
def a4o (h:lvE n ps = 0) (h2:bj n p m = 0):lsC n ps p m = (lsT n ps p m).2.2:=(if_pos h).trans (if_pos h2)
def su (h:lsC n ps p m = 0):lvE n ps = 0 /\ bj n p m = 0:=by
 unfold lsC at h;split at h
 · rename_i e
   split at h
   · rename_i e2;exact ⟨e,e2⟩
   rename_i e2;exact absurd h e2
 rename_i e;exact absurd h e
def at7 (h:lvE n ps = 0) {q:AS} (hq:q ∈ ps):sub q (bi n):=by
 rw [<- (o4 h).2.2.2.2];exact apo hq
def abz (h:lvE n ps = 0):ej n ps = (n,ae (ai n ps),0):=by
 obtain ⟨h0,h8,h64,_⟩:=o4 h;exact a3f b5c b5c fun j hj=>(ah3 h0 b5c).1 (at7 h (db hj))
def b18 (n:Int) (p:List Fd) (ps:List AS):Bool:=lsB n ps p [] && !ps.any (s3 p)
end
end
section
abbrev tbC (a:Int × List Rw):Nat -> PV:=fun j=>[.raw (.int .i64 a.1),rl a.2].getD j .any
def lcR (n:Int) (ps:List AS) (p m:List Fd):(Int × List Rw) × List St × (Int × List Rw) × Int :=
 if lvE n ps = 0 then (if bj n p m = 0 then ((n,ae (ai n ps)),(lsT n ps p m).1,(lsT n ps p m).2.1,(lsT n ps p m).2.2) else ((0,[]),[],(0,[]),bj n p m)) else ((0,[]),[],(0,[]),lvE n ps)
section
variable {n:Int} {ps:List AS} {p m:List Fd} {l lend:List Rw}
def axj (h:¬ lvE n ps = 0):lcR n ps p m = ((0,[]),[],(0,[]),lvE n ps):=if_neg h
def aw6 (h:lvE n ps = 0) (h2:¬ bj n p m = 0):lcR n ps p m = ((0,[]),[],(0,[]),bj n p m):=(if_pos h).trans (if_neg h2)
def afz (h:lvE n ps = 0) (h2:bj n p m = 0):lcR n ps p m = ((n,ae (ai n ps)),(lsT n ps p m).1,(lsT n ps p m).2.1,(lsT n ps p m).2.2):=(if_pos h).trans (if_pos h2)
def gq:(lcR n ps p m).2.2.2 = lsC n ps p m:=by
 unfold lcR lsC;split
 · split <;> rfl
 rfl
def alf (h:(lcR n ps p m).2.2.2 = 0):((lcR n ps p m).2.2.1.2.any fun r=>decide (r = br n)) = lsB n ps p m:=by
 have hc:=h;rw [gq] at hc;obtain ⟨h1,h2⟩:=su hc;unfold lsB;rw [decide_eq_true hc,b4c,afz h1 h2]
def ao3 (h:¬ (lcR n ps p m).2.2.2 = 0):lsB n ps p m = false:=by
 rw [gq] at h;unfold lsB;rw [decide_eq_false h];rfl
def ava:(bif decide ((lcR n ps p m).2.2.2 = 0) then ((lcR n ps p m).2.2.1.2.any fun r=>decide (r = br n)) else false) = lsB n ps p m:=by
 by_cases h:(lcR n ps p m).2.2.2 = 0
 · rw [decide_eq_true h,cond_true,alf h]
 rw [decide_eq_false h,cond_false,ao3 h]
def axw (h:lcR n ps p m = lcR n ps p m) (h2:(lcR n ps p m).2.2.2 = 0):0 <= n /\ n <= 8:=by
 rw [gq] at h2;obtain ⟨h1,_⟩:=su h2;exact ⟨(o4 h1).1,(o4 h1).2.1⟩
def aft:∀ {sts:List St} {l:List Rw} {i:Nat},TrZ n p m lend l sts -> i <= sts.length -> TrZ n p m lend ((trL n p m l sts).getD i default) (sts.drop i)
 | [],l,0,h,_=>h
 | s :: r,l,0,h,_=>h
 | s :: r,l,i + 1,h,hi=>by
  obtain ⟨_,_,l',e,_,h⟩:=h;unfold trL;rw [e];exact aft (i:=i) h (by simpa using hi)
def a15:∀ {sts:List St} {l:List Rw} {i:Nat},i < sts.length -> (trL n p m l sts).getD (i + 1) default = (bu n ((trL n p m l sts).getD i default) p m (sts.getD i default)).2.1
 | [],l,i,hi=>by simp at hi
 | s :: r,l,0,_=>by
  unfold trL
  cases r with
  | nil=>rfl
  | cons s2 r2=>rfl
 | s :: r,l,i + 1,hi=>by
  unfold trL;exact a15 (sts:=r) (i:=i) (by simpa using hi)
section
variable {sts:List St}
def afl:(trL n p m l sts).getD 0 default = l:=by cases sts <;> rfl
def gi (n:Int) (p m:List Fd) (l:List Rw) (sts:List St):List (Int × List Rw):=(trL n p m l sts).map fun t=>(n,t)
def t6:(gi n p m l sts).length = sts.length + 1:=by unfold gi;rw [b33,a6v]
def a10 {i:Nat} (hi:i <= sts.length):(gi n p m l sts).getD i default = (n,(trL n p m l sts).getD i default):=by
 unfold gi;have:i < (trL n p m l sts).length:=by rw [a6v];omega
 rw [b26,b2p,b25 this,b26,b25 this];rfl
def a7v {i:Nat} (hi:i < sts.length):(gi n p m l sts).take (i + 1 + 1) = (gi n p m l sts).take (i + 1) ++ [(n,(bu n ((trL n p m l sts).getD i default) p m (sts.getD i default)).2.1)]:=by
 rw [bz (by rw [t6];omega),a10 b5c,a15 hi]
def abn:(gi n p m l sts).take 1 = [(n,l)]:=by
 unfold gi;cases sts <;> rfl
def rcR (n:Int) (ps:List AS) (p m:List Fd):List St × List (Int × List Rw) × Int :=
 if lsC n ps p m = 0 then ((lsT n ps p m).1,gi n p m (ae (ai n ps)) (lsT n ps p m).1,0) else ([],[],lsC n ps p m)
def ahk {c:Int} (h:lsC n ps p m = c) (h2:¬ c = 0):rcR n ps p m = ([],[],c):=by
 unfold rcR;rw [h,if_neg h2]
def a1b (h:lsC n ps p m = 0):rcR n ps p m = ((lsT n ps p m).1,gi n p m (ae (ai n ps)) (lsT n ps p m).1,0):=if_pos h
def aaa (h:lvE n ps = 0) (hb:bj n p m = 0) (hc:(lsT n ps p m).2.2 = 0):∃ sts lend,lsT n ps p m = (sts,(n,lend),0) /\ TrZ n p m lend (ae (ai n ps)) sts /\ tok n lend = true /\ ((∃ t,t ∈ trL n p m (ae (ai n ps)) sts /\ br n ∈ t) <-> br n ∈ lend):=by
 rcases zt (o4 h).2.2.1 hb with ⟨e,_⟩ | ⟨sts,lend,e,h1,h2,h3,h4⟩
 · unfold lsT at hc
   rw [e] at hc;exact absurd hc b5i
 exact ⟨sts,lend,e,h2,h3,h4⟩
def aiy {p m:List Fd}:∀ (F:Nat) (n:Int) (l:List Rw) (acc:List St),(f5 F n l p m acc).1.length <= acc.length + F:=by
 intro F
 induction F with
 | zero=>intro n l acc;unfold f5;simp
 | succ F ih =>
  intro n l acc;unfold f5;split
  · simp
  rename_i s _;split;rename_i n' l' e _;split
  · have:=ih n' l' (acc ++ [s])
    simp only [b2s,b46] at this;omega
  simp
def a0r (h:lvE n ps = 0) (hb:bj n p m = 0):(lsT n ps p m).1.length <= FU:=by
 obtain ⟨h0,h8,h64,_⟩:=o4 h;have hT:=yc (ps:=ps) h0 b5c h64;have hck:ckE n (ae (ai n ps)) p m = 0:=(if_pos hT).trans hb;unfold lsT;rw [oo hck];have:=aiy (p:=p) (m:=m) FU n (ae (ai n ps)) [];simpa using this
def fg (n:Int) (t:List Rw):Bool:=t.any fun r=>decide (r = br n)
def prX (n:Int) (ps:List AS) (p m:List Fd):Int:=idx (fun a:Int × List Rw=>fg n a.2) (rcR n ps p m).2.1
def prC (n:Int) (ps:List AS) (p m:List Fd):Int:=if (rcR n ps p m).2.2 = 0 then (if prX n ps p m < 0 then 11 else 0) else (rcR n ps p m).2.2
def prS (n:Int) (ps:List AS) (p m:List Fd):List St:=if (rcR n ps p m).2.2 = 0 then (if prX n ps p m < 0 then [] else (rcR n ps p m).1.take (prX n ps p m).toNat) else []
def o6:(rcR n ps p m).2.2 = lsC n ps p m:=by
 unfold rcR;split
 · rename_i h;exact h.symm
 rfl
def air:¬ lsC n ps p m = 11:=by
 intro h;unfold lsC at h;split at h
 · rename_i hv
   split at h
   · rename_i hb
     rcases zt (o4 hv).2.2.1 hb with ⟨e,_⟩ | ⟨sts,lend,e,_⟩
     · unfold lsT at h;rw [e] at h;exact absurd h b5i
     unfold lsT at h;rw [e] at h;exact absurd (show (0:Int) = 11 from h) b5i
   unfold bj ct at h
   (repeat' split at h) <;> omega
 unfold lvE at h
 (repeat' split at h) <;> omega
def af7 (hc:lsC n ps p m = 0):(0 <= prX n ps p m) <-> lsB n ps p m = true:=by
 obtain ⟨h1,h2⟩:=su hc;have hc2:(lsT n ps p m).2.2 = 0:=(a4o h1 h2).symm.trans hc;obtain ⟨sts,lend,e,_,_,h3⟩:=aaa h1 h2 hc2
 have e1:lsB n ps p m = decide (br n ∈ lend):=by
  unfold lsB;rw [decide_eq_true hc,b4c,e];exact qk
 have e2:(rcR n ps p m).2.1 = gi n p m (ae (ai n ps)) sts:=by rw [a1b hc,e]
 have e3:(gi n p m (ae (ai n ps)) sts).any (fun a=>fg n a.2) = decide (0 <= prX n ps p m):=by
  unfold prX;rw [e2];exact abc.symm
 rw [e1,decide_eq_true_iff,<- h3,<- decide_eq_true_iff (p:=0 <= prX n ps p m),<- e3,b3a];unfold gi fg;constructor
 · rintro ⟨x,hx,h⟩
   obtain ⟨t,ht,rfl⟩:=b32.1 hx;exact ⟨t,ht,by rw [qk] at h;exact of_decide_eq_true h⟩
 rintro ⟨t,ht,h⟩;exact ⟨(n,t),b32.2 ⟨t,ht,rfl⟩,by rw [qk];exact decide_eq_true h⟩
def axe (h:prC n ps p m = 11):lsB n ps p m = false /\ lsC n ps p m = 0:=by
 unfold prC at h;rw [o6] at h;split at h
 · rename_i hc
   split at h
   · rename_i hx
     refine ⟨?_,hc⟩;rw [b2e];intro e;have:=(af7 hc).2 e;omega
   exact absurd h b5i
 exact absurd h air
def axh (h:¬ prC n ps p m = 11):decide (prC n ps p m = 0) = lsB n ps p m /\ prC n ps p m = lsC n ps p m:=by
 unfold prC at h ⊢;rw [o6] at h ⊢;split at h
 · rename_i hc
   split at h
   · exact absurd rfl h
   rename_i hx;rw [if_pos hc,if_neg hx,hc];refine ⟨?_,rfl⟩;have:=(af7 hc).1 b5c;rw [this];rfl
 rename_i hc;rw [if_neg hc];refine ⟨?_,rfl⟩;unfold lsB;rw [decide_eq_false hc];rfl
end
end
end
section
open Go.Proofs
section
variable {m p:List Fd} {n:Int} {ps:List AS}
def ajp (h:lvE n ps = 0) (hb:bj n p m = 0) (hc:(lsT n ps p m).2.2 = 0):TrZ n p m (lsT n ps p m).2.1.2 (ae (ai n ps)) (lsT n ps p m).1:=by
 obtain ⟨sts,lend,e,htr,_⟩:=aaa h hb hc;rw [e];exact htr
def avs (h:(rcR n ps p m).2.2 = 0):(rcR n ps p m).2.1.length = (rcR n ps p m).1.length + 1:=by
 rw [o6] at h;rw [a1b h];exact t6
def azc (h:(rcR n ps p m).2.2 = 0):0 <= n /\ n <= 16 /\ (rcR n ps p m).1.length <= FU:=by
 rw [o6] at h;obtain ⟨h1,h2⟩:=su h;rw [a1b h];have:=o4 h1;exact ⟨this.1,by omega,a0r h1 h2⟩
def arj {l:List Rw} {T:List (Int × List Rw)} {e:TypeId} {N:Nat} {f:Nat -> Nat -> PV} (h:T = [(n,l)]) (hN:N = 1) (h0:CoP (f 0 0) (.raw (.int .i64 n))) (h1:CoP (f 0 1) (rl l)):CoO (.arr true 2 e N f) (.arr true 2 e T.length (lf tbC T)):=by
 subst h hN;refine ⟨fun h=>h,rfl,rfl,rfl,fun a j ha hj=>?_⟩
 have ha:a = 0:=by
  have:a < 1:=ha;omega
 subst ha
 match j,hj with
 | 0,_=>exact h0
 | 1,_=>exact h1
def aai {n:Nat} {l:List St} {i:Nat} {cl:Bool} (hn:n = (l.take i).length) {f:Nat -> Nat -> PV} (hf:∀ a j,f a j = lf St.c l a j):CoP (.sl n 4 cl f) (stl (l.take i)):=by
 refine CoP.sl hn.symm (.inl rfl) (fun h=>by cases h) fun a j ha hj=>CoP.of_eq ?_;rw [hf];show St.c (l.getD a default) j = St.c ((l.take i).getD a default) j;have:a < i:=by rw [hn,b2g] at ha;omega
 rw [b26,b26,b2o,if_pos this]
def aea (n:Int) (ps:List AS) (h:lvE n ps = 0):a8 b62 53 [pI n,pP (asl ps)] (ah [pT n (ae (ai n ps)),pI 0]):=by
 have:=avg n ps;rw [abz h] at this;exact this
def acd (n:Int) (ps:List AS) (h:lvE n ps = 0):a8 b62 84 [pI n,pP (asl ps)] (ah [pT n (ae (ai n ps)),pI 0]):=by
 have:=aqj n ps;rw [abz h] at this;exact this
def aqq (n:Int) (ps:List AS) (p m:List Fd):a8 b62 86 [pT n (ae (ai n ps)),pP (fdl p),pP (fdl m)] (ah [pP (stl (lsT n ps p m).1),pT (lsT n ps p m).2.1.1 (lsT n ps p m).2.1.2,pI (lsT n ps p m).2.2]) :=
 aty FU n (ae (ai n ps)) p m (fun h=>aar h) b5i
def am4 (n:Int) (ps:List AS) (p m:List Fd):a8 b62 92 [pT n (ae (ai n ps)),pP (fdl p),pP (fdl m)] (ah [pP (stl (lsT n ps p m).1),pT (lsT n ps p m).2.1.1 (lsT n ps p m).2.1.2,pI (lsT n ps p m).2.2]) :=
 as4 FU n (ae (ai n ps)) p m (fun h=>aar h) b5i
def aip (n:Int) (l:List Rw) (p m:List Fd) (s:St) (hT:tok n l = true) (hb:bj n p m = 0) (h:qo l p m s) (he:bu n l p m s = (n,(bu n l p m s).2.1,0)):a8 b62 85 [pT n l,pP (fdl p),pP (fdl m),s.pc] (ah [pT n (bu n l p m s).2.1,pI 0]):=by
 have:=a7y n l p m s ((if_pos hT).trans hb) h;rw [he] at this;exact this
def aos {l lend:List Rw} {sts:List St} {i:Nat} (hi:i < sts.length) (h:TrZ n p m lend l (sts.drop i)):tok n l = true /\ qo l p m (sts.getD i default) /\ bu n l p m (sts.getD i default) = (n,(bu n l p m (sts.getD i default)).2.1,0):=by
 have e:sts.drop i = sts.getD i default :: sts.drop (i + 1):=by
  rw [b45 hi,b26,b25 hi];rfl
 rw [e] at h;obtain ⟨h1,h2,l',h3,h4,h5⟩:=h;rw [h3];exact ⟨h1,h2,rfl⟩
end
end
end Go.Hx

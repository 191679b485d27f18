/- A part of the proof: Cc1 Cc2 Cc3 Ls1 Cs24 Cs26 V25 Cs27 Cs28 Cs30 V29. -/
import Derived.Test.YtkkenjdfbojdlaaGreatDoorIx22
import Derived.Test.YtkkenjdfbojdlaaGreatDoorIx29
set_option linter.all false
set_option maxRecDepth 100000
namespace Go.Hx
section
def AgE (E:Int -> Int -> Prop) (a b:Rw) (s:AS):Prop:=∀ i:Nat,i < a.length -> d9 s (i:Int) = true -> E (a.getD i default) (b.getD i default)
structure Mdl (N:Nat) (p m:List Fd) (E:Int -> Int -> Prop) (R:Rw -> Prop):Prop where
 refl:∀ x,E x x
 symm:∀ {x y},E x y -> E y x
 trans:∀ {x y z},E x y -> E y z -> E x z
 len:∀ {r},R r -> r.length = N
 cong:∀ {r r':Rw},R r -> r'.length = r.length -> (∀ i,i < r.length -> E (r.getD i default) (r'.getD i default)) -> R r'
 fd:∀ {x},x ∈ p -> ∀ {a b},R a -> R b -> AgE E a b x.lhs -> AgE E a b x.rhs
 mv:∀ {x},x ∈ m -> ∀ {a b},R a -> R b -> AgE E a b x.lhs -> R (dy a b (x.lhs ||| x.rhs))
def LE (N:Nat) (p m:List Fd) (l:List Rw) (x y:Int):Prop:=∀ E R,Mdl N p m E R -> (∀ r,r ∈ l -> R r) -> E x y
def LR (N:Nat) (p m:List Fd) (l:List Rw) (r:Rw):Prop:=∀ E R,Mdl N p m E R -> (∀ r,r ∈ l -> R r) -> R r
def b6x (N:Nat) (p m:List Fd):Mdl N p m (fun _ _=>True) (fun r=>r.length = N) :=
 ⟨fun _=>trivial,fun _=>trivial,fun _ _=>trivial,fun h=>h,fun h e _=>e.trans h,fun _ _ _ _ _ _ _ _ _=>trivial,fun _ a b _ hb _=>(py _ _ _).trans hb⟩
def a8x {N:Nat} {p m:List Fd} {l:List Rw} (hl:∀ r,r ∈ l -> r.length = N):Mdl N p m (LE N p m l) (LR N p m l) where
 refl x:=fun E R h _=>h.refl x
 symm h:=fun E R k kl=>k.symm (h E R k kl)
 trans h h2:=fun E R k kl=>k.trans (h E R k kl) (h2 E R k kl)
 len h:=h _ _ (b6x N p m) hl
 cong h e h2:=fun E R k kl=>k.cong (h E R k kl) e fun i hi=>h2 i hi E R k kl
 fd hx _ _ ha hb hl:=fun i hi hs E R k kl=>k.fd hx (ha E R k kl) (hb E R k kl) (fun j hj hh=>hl j hj hh E R k kl) i hi hs
 mv hx _ _ ha hb hl:=fun E R k kl=>k.mv hx (ha E R k kl) (hb E R k kl) fun j hj hh=>hl j hj hh E R k kl
structure Ch (N:Nat) (p m:List Fd) (l0 l:List Rw) (σ:Int -> Int):Prop where
 rows:∀ r,r ∈ l -> LR N p m l0 r
 sym:∀ s,LE N p m l0 s (σ s)
 img:∀ r,r ∈ l0 -> r.map σ ∈ l
 fix:∀ r,r ∈ l -> ∀ z,z ∈ r -> σ z = z
 le:∀ s,σ s <= s
section
variable {N:Nat} {p m:List Fd} {l0 l l':List Rw} {σ σ':Int -> Int} {n:Int}
theorem Ch.start:Ch N p m l0 l0 id:=⟨fun r hr E R _ hl=>hl r hr,fun s E R k _=>k.refl s,fun r hr=>by rw [List.map_id];exact hr,fun _ _ _ _=>rfl,fun s=>Int.le_refl s⟩
theorem Ch.congr (h:Ch N p m l0 l σ) (e:∀ r,r ∈ l' <-> r ∈ l):Ch N p m l0 l' σ :=
 ⟨fun r hr=>h.rows r ((e r).1 hr),h.sym,fun r hr=>(e _).2 (h.img r hr),fun r hr=>h.fix r ((e r).1 hr),h.le⟩
def s6 (hi lo z:Int):Int:=if z = hi then lo else z
section
variable {f:Int -> Int}
def lh {r:Rw} {i:Nat} (h:i < r.length):(r.map f).getD i default = f (r.getD i default):=by
 rw [bmm,bnc,bml h,bmm,bml h];rfl
theorem Ch.sub (hl0:∀ r,r ∈ l0 -> r.length = N) (h:Ch N p m l0 l σ) {hi lo:Int} (hE:LE N p m l0 hi lo) (hle:lo <= hi) (hin:∃ r,r ∈ l /\ lo ∈ r):Ch N p m l0 (l.map fun r=>r.map (s6 hi lo)) (fun s=>s6 hi lo (σ s)):=by
 have hm:=a8x (p:=p) (m:=m) hl0
 have hs:∀ z,LE N p m l0 z (s6 hi lo z):=fun z=>by
  unfold s6;split
  · rename_i e;rw [e];exact hE
  exact hm.refl z
 refine ⟨fun r hr=>?_,fun s=>hm.trans (h.sym s) (hs _),fun r hr=>?_,fun r hr z hz=>?_,fun s=>?_⟩
 · obtain ⟨r0,h0,rfl⟩:=bne.1 hr
   exact hm.cong (h.rows r0 h0) br1 fun i hi=>by rw [lh hi];exact hs _
 · refine bne.2 ⟨_,h.img r hr, ?_⟩
   rw [List.map_map];rfl
 · obtain ⟨r0,h0,rfl⟩:=bne.1 hr
   obtain ⟨y,hy,rfl⟩:=bne.1 hz;obtain ⟨r1,h1,h2⟩:=hin;have e1:=h.fix r0 h0 y hy;have e2:=h.fix r1 h1 lo h2;by_cases e:y = hi
   · have e3:s6 hi lo y = lo:=if_pos e
     show s6 hi lo (σ (s6 hi lo y)) = s6 hi lo y;rw [e3,e2];unfold s6;split <;> rfl
   have e3:s6 hi lo y = y:=if_neg e;show s6 hi lo (σ (s6 hi lo y)) = s6 hi lo y;rw [e3,e1,e3]
 have h1:=h.le s
 have h2:s6 hi lo (σ s) <= σ s:=by
  unfold s6;split <;> omega
 exact Int.le_trans h2 h1
def aue {M:Nat -> Nat -> Int} {a b j:Nat}:dz l (eqM M a b j) = (dz l M).map fun r=>r.map (s6 (hiI (M a j) (M b j)) (loI (M a j) (M b j))):=by
 unfold dz;rw [List.map_map];refine bp2 fun i _=>?_;show _ = List.map _ (List.map _ _);rw [List.map_map];rfl
def axg {M:Nat -> Nat -> Int} {a j:Nat} (ha:a < l.length) (hj:j < (l.getD a default).length):∃ r,r ∈ dz l M /\ M a j ∈ r :=
 abm.2 ⟨a,j,ha,hj,rfl⟩
theorem Ch.eqMs (hl0:∀ r,r ∈ l0 -> r.length = N) {a b:Nat} (ha:a < l.length) (hb:b < l.length):∀ {js:List Nat} {M:Nat -> Nat -> Int} {σ:Int -> Int},Ch N p m l0 (dz l M) σ -> (∀ j,j ∈ js -> j < (l.getD a default).length /\ j < (l.getD b default).length /\ LE N p m l0 (M a j) (M b j)) ->
 ∃ σ',Ch N p m l0 (dz l (eqMs M a b js)) σ'
 | [],M,σ,h,_=>⟨σ,h⟩
 | j :: js,M,σ,h,hj=>by
  obtain ⟨h1,h2,h3⟩:=hj j br1;have hm:=a8x (p:=p) (m:=m) hl0;have hlo:loI (M a j) (M b j) <= hiI (M a j) (M b j):=by unfold loI hiI;split <;> split <;> omega
  have hE:LE N p m l0 (hiI (M a j) (M b j)) (loI (M a j) (M b j)):=by
   rcases b56 (M a j) (M b j) with e | e <;> rcases atb (M a j) (M b j) with f | f <;> rw [e,f]
   · exact hm.refl _
   · exact h3
   · exact hm.symm h3
   exact hm.refl _
  have hin:∃ r,r ∈ dz l M /\ loI (M a j) (M b j) ∈ r:=by
   rcases atb (M a j) (M b j) with f | f <;> rw [f]
   · exact axg ha h1
   exact axg hb h2
  have hq:=h.sub hl0 hE hlo hin;rw [<- aue] at hq
  have hs:∀ z,LE N p m l0 z (if z = hiI (M a j) (M b j) then loI (M a j) (M b j) else z):=fun z=>by
   split
   · rename_i e;rw [e];exact hE
   exact hm.refl z
  exact Ch.eqMs hl0 ha hb (js:=js) hq fun k hk=>by
   obtain ⟨h4,h5,h6⟩:=hj k (by simp [hk]);exact ⟨h4,h5,hm.trans (hm.symm (hs (M a k))) (hm.trans h6 (hs (M b k)))⟩
def apf:dz l (ci l) = l:=by
 refine oz (mq _ _) fun i hi=>?_;rw [mq] at hi;rw [aj1 hi];refine oz br1 fun k hk=>?_;simp only [bn6,bp3] at hk;rw [bmm,bnc,boa hk];rfl
def atg (hl0:∀ r,r ∈ l0 -> r.length = N) {a b:Rw} {s:AS} (h:lm a b s = true):AgE (LE N p m l0) a b s:=fun i hi hs=>by
 rw [of_decide_eq_true h i hi hs];exact (a8x hl0).refl _
def dt {α:Type} [Inhabited α] {l:List α} {i:Nat} (h:i < l.length):l.getD i default ∈ l:=by
 rw [bmm,bml h];exact bnb h
def b1n {a b:Rw} {s:AS} (hl:a.length = b.length) {z:Int} (hz:z ∈ dy a b s):z ∈ a \/ z ∈ b:=by
 unfold dy at hz;rw [bne] at hz;obtain ⟨i,hi,rfl⟩:=hz;have hi:=bn3.1 hi;split
 · exact .inl (dt bqx)
 exact .inr (dt hi)
def bd8 (l:List Rw) (p m:List Fd) (s:St):Prop:=s.2.2.1 < l.length /\ s.2.2.2 < l.length /\ (s.1 = false -> s.2.1 < p.length) /\ (s.1 = true -> s.2.1 < m.length)
theorem Ch.app (hl0:∀ r,r ∈ l0 -> r.length = n.toNat) (hT:tok n l = true) (hp:p.all (inU n) = true) (h:Ch n.toNat p m l0 l σ) {s:St} (hs:bd8 l p m s) (he:(dx n l p m s).2.2 = 0) :
 (dx n l p m s).1 = n /\ ∃ σ',Ch n.toNat p m l0 (dx n l p m s).2.1 σ':=by
 obtain ⟨mu,i,a,b⟩:=s;obtain ⟨ha,hb,hf,hv⟩:=hs;obtain ⟨h0,h1,h2,h3⟩:=jn hT;have ha:a < l.length:=ha;have hb:b < l.length:=hb;have hra:=h3 a ha;have hrb:=h3 b hb
 cases mu with
 | false =>
  have hi:i < p.length:=hf rfl;have e0:dx n l p m (false,i,a,b) = fdE n l a b (p.getD i default):=rfl;rw [e0] at he ⊢;by_cases hg:lm (l.getD a default) (l.getD b default) (p.getD i default).lhs = true
  · have e1:fdE n l a b (p.getD i default) = (n,au (dz l (Go.Hx.eqMs (ci l) a b (ak (p.getD i default).rhs))),0):=if_pos hg
    rw [e1];refine ⟨rfl, ?_⟩;have hu:inU n (p.getD i default) = true:=bnr.1 hp _ (dt hi);have hm:=a8x (p:=p) (m:=m) hl0;have hR:=hm.fd (dt hi) (h.rows _ (dt ha)) (h.rows _ (dt hb)) (atg hl0 hg)
    obtain ⟨σ',hσ⟩:=Ch.eqMs (p:=p) (m:=m) hl0 ha hb (js:=ak (p.getD i default).rhs) (M:=ci l) (σ:=σ) (by rw [apf];exact h) fun j hj=>by
     have h4:=a9q h0 h1 hu hj;have h5:=jc.1 hj;refine ⟨Nat.lt_of_lt_of_eq h4 hra.symm,Nat.lt_of_lt_of_eq h4 hrb.symm,hR j (Nat.lt_of_lt_of_eq h4 hra.symm) (by rw [gm h5.1];exact h5.2)⟩
    exact ⟨σ',hσ.congr fun r=>i7⟩
  have e1:fdE n l a b (p.getD i default) = (0,[],1):=if_neg hg;rw [e1] at he;exact absurd he br2
 | true =>
  have hi:i < m.length:=hv rfl;have e0:dx n l p m (true,i,a,b) = mvE n l a b (m.getD i default):=rfl;rw [e0] at he ⊢;by_cases hg:lm (l.getD a default) (l.getD b default) (m.getD i default).lhs = true
  · have e1:mvE n l a b (m.getD i default) = w9 n l (dy (l.getD a default) (l.getD b default) ((m.getD i default).lhs ||| (m.getD i default).rhs)):=if_pos hg
    rw [e1] at he ⊢;by_cases hbig:256 < (au (l ++ [dy (l.getD a default) (l.getD b default) ((m.getD i default).lhs ||| (m.getD i default).rhs)])).length
    · have e2:w9 n l (dy (l.getD a default) (l.getD b default) ((m.getD i default).lhs ||| (m.getD i default).rhs)) = (0,[],3):=if_pos hbig
      rw [e2] at he;exact absurd he br2
    have e2:w9 n l (dy (l.getD a default) (l.getD b default) ((m.getD i default).lhs ||| (m.getD i default).rhs)) = (n,au (l ++ [dy (l.getD a default) (l.getD b default) ((m.getD i default).lhs ||| (m.getD i default).rhs)]),0):=if_neg hbig;rw [e2];refine ⟨rfl,σ, ?_⟩;have hm:=a8x (p:=p) (m:=m) hl0;have hR:=hm.mv (dt hi) (h.rows _ (dt ha)) (h.rows _ (dt hb)) (atg hl0 hg);refine ⟨fun r hr=>?_,h.sym,fun r hr=>i7.2 (bn5 _ (h.img r hr)),fun r hr z hz=>?_,h.le⟩
    · rcases bn1.1 (i7.1 hr) with h4 | h4
      · exact h.rows r h4
      rw [bn2.1 h4];exact hR
    rcases bn1.1 (i7.1 hr) with h4 | h4
    · exact h.fix r h4 z hz
    rw [bn2.1 h4] at hz
    rcases b1n bqx hz with h5 | h5
    · exact h.fix _ (dt ha) z h5
    exact h.fix _ (dt hb) z h5
  have e1:mvE n l a b (m.getD i default) = (0,[],1):=if_neg hg;rw [e1] at he;exact absurd he br2
def aeq {P:Nat -> Nat -> Nat -> Bool} {I L:Nat} (h:fz P I L = none) {i a b:Nat} (hi:i < I) (ha:a < L) (hb:b < L):P i a b = false:=by
 unfold fz at h;rw [bp9] at h;have h1:=h i (bn3.2 hi);rw [bp9] at h1;have h2:=h1 a (bn3.2 ha);rw [Option.map_eq_none_iff,bq0] at h2;exact bmx.2 (h2 b (bn3.2 hb))
def aze (h:ez l p m = none):(∀ i,i < p.length -> ∀ a,a < l.length -> ∀ b,b < l.length -> fc l (p.getD i default) a b = false) /\ ∀ i,i < m.length -> ∀ a,a < l.length -> ∀ b,b < l.length -> ff l (m.getD i default) a b = false:=by
 unfold ez at h;split at h
 · cases h
 rename_i e;rw [Option.map_eq_none_iff] at h;exact ⟨fun i hi a ha b hb=>aeq (P:=fun i a b=>fc l (p.getD i default) a b) e hi ha hb,fun i hi a ha b hb=>aeq (P:=fun i a b=>ff l (m.getD i default) a b) h hi ha hb⟩
def zx {α:Type} [Inhabited α] {l:List α} {x:α} (h:x ∈ l):∃ i,i < l.length /\ l.getD i default = x:=by
 obtain ⟨i,hi,rfl⟩:=bng h;exact ⟨i,hi,by rw [bmm,bml hi];rfl⟩
def b2p {a b:Rw} {s:AS} (hl:a.length = b.length):dy (a.map f) (b.map f) s = (dy a b s).map f:=by
 unfold dy;rw [List.map_map,bn6];refine bp2 fun i hi=>?_;have hi:=bn3.1 hi;show _ = f (if d9 s (i:Int) = true then a.getD i default else b.getD i default);split
 · rw [lh bqx]
 rw [lh hi]
theorem Ch.mdl (hT:tok n l = true) (hn:ez l p m = none) (σ:Int -> Int):Mdl n.toNat p m (fun x y=>σ x = σ y) (fun r=>r.length = n.toNat /\ r.map σ ∈ l):=by
 obtain ⟨hF,hM⟩:=aze hn;refine ⟨fun _=>rfl,fun h=>h.symm,fun h k=>h.trans k,fun h=>h.1,fun {r r'} h e h2=>⟨e.trans h.1, ?_⟩,fun {x} hx {a b} ha hb hl i hi hs=>?_,fun {x} hx {a b} ha hb hl=>⟨(py _ _ _).trans hb.1, ?_⟩⟩
 · have:r'.map σ = r.map σ:=by
    refine oz (by simp [e]) fun i hi=>?_;rw [bn6] at hi;rw [lh hi,lh bqx];exact (h2 i bqx).symm
   rw [this];exact h.2
 · obtain ⟨k,hk,rfl⟩:=zx hx
   obtain ⟨ia,hia,ea⟩:=zx ha.2;obtain ⟨ib,hib,eb⟩:=zx hb.2;have h1:=hF k hk ia hia ib hib;unfold fc at h1;rw [ea,eb,a3r (fun j hj hs=>by rw [bn6] at hj;rw [lh hj,lh (by rw [hb.1,<- ha.1];exact hj)];exact hl j hj hs),bov,Bool.not_eq_false'] at h1;have h2:=of_decide_eq_true h1 i (by rw [bn6];exact hi) hs;rw [lh hi,lh (by rw [hb.1,<- ha.1];exact hi)] at h2;exact h2
 obtain ⟨k,hk,rfl⟩:=zx hx;obtain ⟨ia,hia,ea⟩:=zx ha.2;obtain ⟨ib,hib,eb⟩:=zx hb.2;have h1:=hM k hk ia hia ib hib;unfold ff at h1;rw [ea,eb,a3r (fun j hj hs=>by rw [bn6] at hj;rw [lh hj,lh (by rw [hb.1,<- ha.1];exact hj)];exact hl j hj hs),bov,Bool.not_eq_false'] at h1;obtain ⟨r,hr,e⟩:=bno.1 h1;rw [<- b2p (by rw [ha.1,hb.1]),<- of_decide_eq_true e];exact hr
theorem Ch.has (h:Ch n.toNat p m l0 l σ) (hT:tok n l = true) (hl0:∀ r,r ∈ l0 -> r.length = n.toNat) (hn:ez l p m = none):(∀ x y,LE n.toNat p m l0 x y -> σ x = σ y) /\ ∀ r,LR n.toNat p m l0 r -> r.map σ ∈ l:=by
 have hm:=Ch.mdl (p:=p) (m:=m) hT hn σ;have hl:∀ r,r ∈ l0 -> r.length = n.toNat /\ r.map σ ∈ l:=fun r hr=>⟨hl0 r hr,h.img r hr⟩;exact ⟨fun x y e=>e _ _ hm hl,fun r e=>(e _ _ hm hl).2⟩
def afo:∀ {r:Rw},(∀ z,z ∈ r -> f z = z) -> r.map f = r
 | [],_=>rfl
 | z :: r,h=>by rw [bo7,h z br1,afo fun y hy=>h y (by simp [hy])]
theorem Ch.mem (h:Ch n.toNat p m l0 l σ) (hT:tok n l = true) (hl0:∀ r,r ∈ l0 -> r.length = n.toNat) (hn:ez l p m = none) {r:Rw}:r ∈ l <-> LR n.toNat p m l0 r /\ r.map σ = r:=by
 constructor
 · intro hr
   exact ⟨h.rows r hr,afo (h.fix r hr)⟩
 rintro ⟨h1,h2⟩;rw [<- h2];exact (h.has hT hl0 hn).2 r h1
end
end
end
section
def bi4:List (List Int) -> List Rw
 | []=>[[]]
 | c :: cs=>c.flatMap fun z=>(bi4 cs).map fun r=>z :: r
section
variable {N:Nat} {p m:List Fd} {l0 l:List Rw}
def b9f {a b:Rw} {s:AS} {i:Nat} (h:i < b.length):(dy a b s).getD i default = if d9 s (i:Int) = true then a.getD i default else b.getD i default:=by
 unfold dy;rw [bmm,bnc,boa h];rfl
def b30 (C:Nat -> List Int) (hd:∀ i j z,z ∈ C i -> z ∈ C j -> i = j):Mdl N p m (fun x y=>x = y \/ ∃ i,x ∈ C i /\ y ∈ C i) (fun r=>r.length = N /\ ∀ i,i < N -> r.getD i default ∈ C i) where
 refl _:=.inl rfl
 symm h:=by
  rcases h with h | ⟨i,h,k⟩
  · exact .inl h.symm
  exact .inr ⟨i,k,h⟩
 trans h h2:=by
  rcases h with h | ⟨i,h,k⟩
  · rw [h];exact h2
  rcases h2 with h2 | ⟨j,h2,k2⟩
  · rw [<- h2];exact .inr ⟨i,h,k⟩
  have:=hd i j _ k h2;subst this;exact .inr ⟨i,h,k2⟩
 len h:=h.1
 cong h e h2:=⟨e.trans h.1,fun i hi=>by
  have h3:=h.2 i hi
  rcases h2 i (by rw [h.1];exact hi) with h4 | ⟨j,h4,h5⟩
  · rw [<- h4];exact h3
  have:=hd i j _ h3 h4;subst this
  exact h5⟩
 fd _ a b ha hb _:=fun i hi _=>.inr ⟨i,ha.2 i (by rw [<- ha.1];exact hi),hb.2 i (by rw [<- ha.1];exact hi)⟩
 mv _ a b ha hb _:=⟨(py _ _ _).trans hb.1,fun i hi=>by
  rw [b9f (by rw [hb.1];exact hi)];split
  · exact ha.2 i hi
  exact hb.2 i hi⟩
def bhw (N:Nat) (p m:List Fd) (l0:List Rw):Prop:=∀ l,qr l -> (∀ r,r ∈ l -> LR N p m l0 r) -> l.length <= 256
end
section
variable {p m:List Fd} {l0 l:List Rw} {n:Int} {σ:Int -> Int}
def aqt {s:St} (h:yd l p m s):bd8 l p m s:=by
 obtain ⟨h1,h2,h3⟩:=h;refine ⟨h1,h2,fun e=>?_,fun e=>?_⟩
 · rcases h3 with ⟨_,h,_⟩ | ⟨h,_⟩
   · exact h
   rw [e] at h;cases h
 rcases h3 with ⟨h,_⟩ | ⟨_,h,_⟩
 · rw [e] at h;cases h
 exact h
theorem Ch.code (h0:tok n l0 = true) (hS:bhw n.toNat p m l0) (hp:p.all (inU n) = true) (hT:tok n l = true) (h:Ch n.toNat p m l0 l σ) {s:St} (hs:yd l p m s):(dx n l p m s).2.2 = 0:=by
 rcases ak3 hT hp hs with e | ⟨l',e,_⟩
 · obtain ⟨mu,i,a,b⟩:=s
   obtain ⟨ha,hb,hs | hs⟩:=hs
   · obtain ⟨h1,h2,h3⟩:=hs
     cases h1;have h4:dx n l p m (false,i,a,b) = fdE n l a b (p.getD i default):=rfl;have hg:=(avd hT (bnr.1 hp _ (dt h2)) ha hb h3).1;have hg:fdE n l a b (p.getD i default) = (n,fdL l a b (p.getD i default),0):=hg;rw [h4,hg] at e ⊢
   obtain ⟨h1,h2,h3⟩:=hs;cases h1;have h4:dx n l p m (true,i,a,b) = mvE n l a b (m.getD i default):=rfl;have h5:ff l (m.getD i default) a b = true:=h3;unfold ff at h5;rw [bmw] at h5;have h6:mvE n l a b (m.getD i default) = w9 n l (dy (l.getD a default) (l.getD b default) ((m.getD i default).lhs ||| (m.getD i default).rhs)):=if_pos h5.1;have hl0:∀ r,r ∈ l0 -> r.length = n.toNat:=fun r hr=>(zd h0 r hr).1
   have h7:=hS (au (l ++ [dy (l.getD a default) (l.getD b default) ((m.getD i default).lhs ||| (m.getD i default).rhs)])) (j8 _) fun r hr=>by
    rcases bn1.1 (i7.1 hr) with h8 | h8
    · exact h.rows r h8
    rw [bn2.1 h8];exact (a8x hl0).mv (dt h2) (h.rows _ (dt ha)) (h.rows _ (dt hb)) (atg hl0 h5.1)
   rw [h4,h6];unfold w9;rw [if_neg bqx]
 rw [e]
def TrZ (n:Int) (p m:List Fd) (lend:List Rw):List Rw -> List St -> Prop
 | l,[]=>l = lend
 | l,s :: r=>tok n l = true /\ yd l p m s /\ ∃ l',dx n l p m s = (n,l',0) /\ ¬ l' = l /\ TrZ n p m lend l' r
end
def stC (n:Int) (ps:List AS) (c:Nat):List Int:=if c < n.toNat then (List.range ps.length).map fun i=>stV n i (ps.getD i default) c else []
section
variable {n:Int} {ps:List AS} {p m:List Fd}
def bbo (h0:0 <= n) {i c:Nat} {q:AS} (hc:c < n.toNat):stV n i q c % n = (c:Int):=by
 unfold stV;split
 · exact Int.emod_eq_of_lt bqx bqx
 have e:n + (i:Int) * n + (c:Int) = (c:Int) + n * (1 + (i:Int)):=by rw [Int.mul_add,Int.mul_one,Int.mul_comm (i:Int) n];omega
 rw [e,Int.add_mul_emod_self_left];exact Int.emod_eq_of_lt bqx bqx
def agr (h0:0 <= n) {c:Nat} {z:Int} (h:z ∈ stC n ps c):c < n.toNat /\ z % n = (c:Int):=by
 unfold stC at h;split at h
 · rename_i hc
   obtain ⟨i,_,rfl⟩:=bne.1 h;exact ⟨hc,bbo h0 hc⟩
 simp at h
def b6b (h0:0 <= n):∀ i j z,z ∈ stC n ps i -> z ∈ stC n ps j -> i = j:=fun i j z h k=>by
 have h1:=(agr h0 h).2;have h2:=(agr h0 k).2;omega
def ada {r:Rw} (hr:r ∈ bo n ps):r.length = n.toNat /\ ∀ i,i < n.toNat -> r.getD i default ∈ stC n ps i:=by
 unfold bo at hr;obtain ⟨k,hk,rfl⟩:=bne.1 hr;refine ⟨agl _ _ _,fun i hi=>?_⟩;rw [am0 hi];unfold stC;rw [if_pos hi];exact bne.2 ⟨k,hk,rfl⟩
end
end
section
section
variable {n:Int} {ps:List AS} {p m:List Fd} {l l0:List Rw} {σ:Int -> Int}
def bgr {N:Nat} {l l':List Rw} (h:∀ r,r ∈ l <-> r ∈ l') {r:Rw}:LR N p m l r <-> LR N p m l' r :=
 ⟨fun k E R hm hl=>k E R hm fun r hr=>hl r ((h r).1 hr),fun k E R hm hl=>k E R hm fun r hr=>hl r ((h r).2 hr)⟩
def b00 (h0:0 <= n) {c:Nat} {z:Int} (h:z ∈ stC n ps c):z = (c:Int) \/ n <= z:=by
 unfold stC at h;split at h
 · obtain ⟨i,_,rfl⟩:=bne.1 h
   unfold stV;split
   · exact .inl rfl
   right;have:=Int.mul_nonneg (show (0:Int) <= (i:Int) by omega) h0;omega
 simp at h
theorem Ch.first (h0:0 <= n) (h:Ch n.toNat p m (au (bo n ps)) l σ):(df n).map σ = df n:=by
 refine afo fun z hz=>?_;unfold df at hz;obtain ⟨c,hc,rfl⟩:=bne.1 hz;have hc:=bn3.1 hc;have h1:=h.sym (c:Int) _ _ (b30 (stC n ps) (b6b h0)) fun r hr=>ada (i7.1 hr)
 rcases h1 with h1 | ⟨i,h1,h2⟩
 · exact h1.symm
 have h3:=(agr h0 h1).2;have h4:=Int.emod_eq_of_lt (a:=(c:Int)) (b:=n) bqx bqx;have h5:i = c:=by omega
 subst h5;have h6:=h.le (i:Int)
 rcases b00 h0 h2 with h7 | h7
 · exact h7
 omega
def a6q {r:Rw}:(l.any fun x=>decide (x = r)) = decide (r ∈ l):=by
 rw [bom,bno,decide_eq_true_iff];constructor
 · rintro ⟨x,hx,e⟩
   rw [<- of_decide_eq_true e];exact hx
 intro h;exact ⟨r,h,decide_eq_true rfl⟩
def swI (n z:Int):Int:=if n <= z /\ z < 2 * n then z + n else if 2 * n <= z /\ z < 3 * n then z - n else z
abbrev bma (n:Int) (x:Fd):Fd:=⟨x.lhs,a7 n &&& ~~~(x.lhs ||| x.rhs)⟩
end
end
section
section
variable {n:Int} {p m:List Fd} {l0 l:List Rw} {σ:Int -> Int}
def b43 (hT:tok n l = true) (hp:p.all (inU n) = true) (hm:m = []) {s:St} (hs:yd l p m s):(dx n l p m s).2.2 = 0:=by
 obtain ⟨mu,i,a,b⟩:=s;obtain ⟨ha,hb,hs | hs⟩:=hs
 · obtain ⟨h1,h2,h3⟩:=hs
   cases h1;have h4:dx n l p m (false,i,a,b) = fdE n l a b (p.getD i default):=rfl;have hg:fdE n l a b (p.getD i default) = (n,fdL l a b (p.getD i default),0):=(avd hT (bnr.1 hp _ (dt h2)) ha hb h3).1;rw [h4,hg]
 obtain ⟨_,h2,_⟩:=hs;subst hm;exact absurd h2 (bmq _)
def awt (hl0:∀ r,r ∈ l0 -> r.length = n.toNat) (hp:p.all (inU n) = true) (Z:List Int):∀ (F:Nat) (l:List Rw) (acc:List St) (σ:Int -> Int),tok n l = true -> Ch n.toNat p m l0 l σ -> Cov Z l -> muC Z l < F ->
 (j9 F n l p m acc = ([],(0,[]),3) /\ ¬ m = []) \/ ∃ sts lend σ',j9 F n l p m acc = (acc ++ sts,(n,lend),0) /\ Ch n.toNat p m l0 lend σ' /\ tok n lend = true /\ ez lend p m = none /\ TrZ n p m lend l sts:=by
 intro F
 induction F with
 | zero=>intro _ _ _ _ _ _ h;exact absurd h (bmq _)
 | succ F ih =>
  intro l acc σ hT hC hZ hF
  cases hn:ez l p m with
  | none=>exact .inr ⟨[],l,σ,by rw [acm bqx hn,bnn],hC,hT,hn,rfl⟩
  | some s =>
   have hs:=a8b hn
   rcases ak3 hT hp hs with e | ⟨l',e,hT',h3⟩
   · left
     refine ⟨acn bqx hn e br2,fun hm=>?_⟩;have:=b43 hT hp hm hs;rw [e] at this;exact absurd this br2
   obtain ⟨h4,h5⟩:=h3 Z hZ;obtain ⟨_,σ',hC'⟩:=Ch.app hl0 hT hp hC (aqt hs) (by rw [e]);rw [e] at hC'
   rcases ih l' (acc ++ [s]) σ' hT' hC' h4 bqx with ⟨q,q0⟩ | ⟨sts,lend,σ2,q1,q2,q3,q4,q5⟩
   · left
     exact ⟨by rw [a2k bqx hn e,Nat.add_sub_cancel,q],q0⟩
   right;refine ⟨s :: sts,lend,σ2, ?_,q2,q3,q4,hT,hs,l',e,fun e=>?_,q5⟩
   · rw [a2k bqx hn e,Nat.add_sub_cancel,q1,bnx]
     rfl
   subst e;omega
def ay6 (hT:tok n l = true) (hb:br n p m = 0):(jl FU n l p m = ([],(0,[]),3) /\ ¬ m = []) \/ ∃ sts lend σ,jl FU n l p m = (sts,(n,lend),0) /\ Ch n.toNat p m l lend σ /\ tok n lend = true /\ ez lend p m = none /\ TrZ n p m lend l sts:=by
 have hck:ckE n l p m = 0:=(if_pos hT).trans hb;rw [wq hck]
 rcases awt (fun r hr=>(zd hT r hr).1) (l7 hb).2.2.2.1 l.flatten FU l [] id hT Ch.start (am4 l) (am6 hT) with h | ⟨sts,lend,σ',q1,q⟩
 · exact .inl h
 exact .inr ⟨sts,lend,σ',by rw [q1,bqj],q⟩
def trL (n:Int) (p m:List Fd):List Rw -> List St -> List (List Rw)
 | l,[]=>[l]
 | l,s :: r=>l :: trL n p m (dx n l p m s).2.1 r
def a3w:∀ {sts:List St} {l:List Rw},(trL n p m l sts).length = sts.length + 1
 | [],_=>rfl
 | s :: r,l=>by unfold trL;rw [bn9,a3w,bn9]
def ane:∀ {sts:List St} {l lend:List Rw},TrZ n p m lend l sts -> lend ∈ trL n p m l sts
 | [],l,lend,h=>by
  have h:l = lend:=h;subst h;simp [trL]
 | s :: r,l,lend,h=>by
  obtain ⟨_,_,l',e,_,h⟩:=h;unfold trL;rw [e];exact bnq _ (ane h)
def azb (hl0:∀ r,r ∈ l0 -> r.length = n.toNat) (hp:p.all (inU n) = true):∀ {sts:List St} {l lend:List Rw} {σ:Int -> Int},TrZ n p m lend l sts -> tok n lend = true -> Ch n.toNat p m l0 l σ -> ∀ t,t ∈ trL n p m l sts -> ∃ σ,Ch n.toNat p m l0 t σ
 | [],l,lend,σ,h,_,hC,t,ht=>by
  rw [bn2.1 (show t ∈ [l] from ht)];exact ⟨σ,hC⟩
 | s :: r,l,lend,σ,h,hTe,hC,t,ht=>by
  obtain ⟨hT,hs,l',e,_,h⟩:=h;unfold trL at ht;rw [e] at ht
  rcases bn0.1 ht with rfl | ht
  · exact ⟨σ,hC⟩
  obtain ⟨_,σ',hC'⟩:=Ch.app hl0 hT hp hC (aqt hs) (by rw [e]);rw [e] at hC';exact azb hl0 hp h hTe hC' t ht
end
section
variable {n:Int} {ps:List AS} {p m:List Fd}
def ack (h0:0 <= n) (h16:n <= 16) (hk:ps.length <= 64):tok n (au (bo n ps)) = true:=by
 refine a88 h0 h16 ?_ fun r hr=>?_
 · have:=a1p (bo n ps)
   rw [ru] at this;omega
 obtain ⟨h1,h2⟩:=ada hr;refine ⟨h1,fun z hz=>?_⟩;obtain ⟨i,hi,rfl⟩:=zx hz
 rcases b00 h0 (h2 i bqx) with h3 | h3 <;> omega
def ai1 (hk:ps.length <= 64) (hb:br n p m = 0) :
 (jl FU n (au (bo n ps)) p m = ([],(0,[]),3) /\ ¬ m = []) \/ ∃ sts lend,jl FU n (au (bo n ps)) p m = (sts,(n,lend),0) /\ (df n ∈ lend <-> LR n.toNat p m (bo n ps) (df n)) /\
  TrZ n p m lend (au (bo n ps)) sts /\ tok n lend = true /\ ((∃ t,t ∈ trL n p m (au (bo n ps)) sts /\ df n ∈ t) <-> df n ∈ lend):=by
 obtain ⟨h0,h16,_,hp,_⟩:=l7 hb;have hT:=ack h0 h16 hk;have hl0:∀ r,r ∈ au (bo n ps) -> r.length = n.toNat:=fun r hr=>(zd hT r hr).1
 rcases ay6 hT hb with h | ⟨sts,lend,σ,h1,h2,h3,h4,h5⟩
 · exact .inl h
 right
 have hf:df n ∈ lend <-> LR n.toNat p m (au (bo n ps)) (df n):=by
  rw [h2.mem h3 hl0 h4];exact ⟨fun h=>h.1,fun h=>⟨h,h2.first h0⟩⟩
 refine ⟨sts,lend,h1,by rw [hf,bgr (l':=bo n ps) fun r=>i7],h5,h3, ?_⟩;constructor
 · rintro ⟨t,ht,hft⟩
   obtain ⟨σ',hC⟩:=azb hl0 hp h5 h3 Ch.start t ht;exact hf.2 (hC.rows _ hft)
 intro h;exact ⟨lend,ane h5,h⟩
end
end
section
section
variable {n:Int} {l:List Fd}
def af4 (h:b5 n l = 0):∀ f ∈ l,sub f.lhs (a7 n) /\ sub f.rhs (a7 n):=fun f hf=>by
 obtain ⟨h0,h1,_,h3⟩:=ep h;exact (ou h0 h1).1 (bnr.1 h3 f hf)
def apb (h:b5 n l = 0):ud l (a7 n):=fun f hf _=>(af4 h f hf).2
def aki (h:b5 n l = 0) {x:AS} (hx:sub x (a7 n)):sub (clo l x) (a7 n):=a6i (apb h) hx
end
def m7 {α β:Type} [Inhabited α] {f:α -> β} {l:List α} {i:Nat} (h:i < l.length):(l.take (i + 1)).map f = (l.take i).map f ++ [f (l.getD i default)]:=by
 rw [aq h,bou];rfl
structure Dps where
 n:BitVec 8
 l:List Dp
deriving Inhabited
def Dps.num (d:Dps):Int:=((d.n.toNat % 7:Nat):Int)
def Dps.fds (d:Dps):List Fd:=d.l.map (Dp.fd d.num)
def Dps.c (d:Dps):Nat -> PV
 | 0=>.raw (.int .u8 (d.n.toNat:Int))
 | 1=>dpl d.l
 | _=>.any
abbrev Dps.pc (d:Dps):PC:=.agg [d.c 0,d.c 1]
end
section
def noA (s:AS) (a:Nat):AS:=s &&& ~~~((1:AS) <<< a)
def a16 (s:AS) (a:Nat) {b:Int} (h:b.toNat = a):az .andNot .u32 (asI s) (IntKind.wrap .u32 (1 * 2 ^ (min b.toNat 32))) = asI (noA s a):=by
 rw [h];exact w3 s a
section
variable {s:AS}
def bcm {a:Nat} (h:s.getLsbD a = false):noA s a = s:=by
 unfold noA;apply bo5;intro i hi;rw [bn4,boo,decide_eq_true hi,bov];by_cases hia:i = a
 · subst hia;rw [h];rfl
 have h1:((1:AS) <<< a).getLsbD i = decide (i = a):=rp a i hi;rw [h1,decide_eq_false hia];simp
def amc (n:Int) (l:List Fd) (s:AS) (a:Nat):AS:=if j7 n l (noA s a) = true then noA s a else s
def jj (n:Int) (l:List Fd) (s:AS) (k:Nat):AS:=(List.range k).foldl (fun s j=>amc n l s (n.toNat - 1 - j)) s
def a4l (n:Int) (l:List Fd) (s:AS) (k:Nat):jj n l s (k + 1) = amc n l (jj n l s k) (n.toNat - 1 - k):=by
 unfold jj;rw [bod,bo0];rfl
variable {l:List Fd} {n:Int}
def a3b {k:Nat} (h:j7 n l (noA (jj n l s k) (n.toNat - 1 - k)) = true):jj n l s (k + 1) = noA (jj n l s k) (n.toNat - 1 - k):=by
 rw [a4l];exact if_pos h
def a33 {k:Nat} (h:j7 n l (noA (jj n l s k) (n.toNat - 1 - k)) = false):jj n l s (k + 1) = jj n l s k:=by
 rw [a4l];exact if_neg (by rw [h];decide)
def agd {k:Nat} (h:(jj n l s k).getLsbD (n.toNat - 1 - k) = false):jj n l s (k + 1) = jj n l s k:=by
 rw [a4l];unfold amc;rw [bcm h];split <;> rfl
def rkE (n:Int) (l:List Fd) (s:AS):Int:=if b5 n l = 0 then (if j7 n l s = true then 0 else 1) else b5 n l
def rkS (n:Int) (l:List Fd) (s:AS):AS:=if rkE n l s = 0 then jj n l s n.toNat else 0
def bdb (h:¬ b5 n l = 0):rkS n l s = 0 /\ rkE n l s = b5 n l:=by
 have e:rkE n l s = b5 n l:=if_neg h;exact ⟨if_neg (by rw [e];exact h),e⟩
def bcx (h:b5 n l = 0) (h2:j7 n l s = false):rkS n l s = 0 /\ rkE n l s = 1:=by
 have e:rkE n l s = 1:=by unfold rkE;rw [if_pos h,if_neg (by rw [h2];decide)]
 exact ⟨if_neg (by rw [e];decide),e⟩
def b3s (h:b5 n l = 0) (h2:j7 n l s = true):rkS n l s = jj n l s n.toNat /\ rkE n l s = 0:=by
 have e:rkE n l s = 0:=by unfold rkE;rw [if_pos h,if_pos h2]
 exact ⟨if_pos e,e⟩
def biu (n:Int) (l:List Fd) (s:AS):Bool:=j7 n l s && (List.range n.toNat).all fun a=>!(s.getLsbD a && j7 n l (noA s a))
def bhn (n:Int) (l:List Fd) (i:Nat):List AS:=((List.range i).map (BitVec.ofNat 32)).filter (biu n l)
def b5c (n:Int) (l:List Fd):List AS:=if b5 n l = 0 then ord (bhn n l (2 ^ n.toNat)) else []
def bdc (h0:0 <= n) (h1:n <= 16):asI (a7 n) + 1 = (2 ^ n.toNat:Nat) /\ 2 ^ n.toNat <= 65536:=by
 have h2:2 ^ n.toNat <= 2 ^ 16:=bo2 bqx bqx;have h3:0 < 2 ^ n.toNat:=bql _;unfold a7 asI;rw [aaj (Nat.min_le_right _ _),bok bqx];omega
end
end
section
open Go.Proofs
def b65 (n:Int) (l:List Fd) (s:AS):a6 brj 73 [pI n,pP (fdl l),pA s] (a8 [pA (rkS n l s),pI (rkE n l s)]):=by
 refine hpx (nt:=38) Tryz.func73 ?_;refine bz ?_;refine qcx wl (zz n l) ?_;refine w_7 ?_;refine hcn (fun h0=>?_) (fun h0=>?_)
 · refine w_6 ?_;refine hrr ?_;have he:=bdb (s:=s) h0;exact f9 rfl rfl (⟨cci (congrArg asI he.1.symm),cci he.2.symm,trivial⟩)
 refine w_7 ?_;refine qcx aep (ajw n l s) ?_;refine w_2 ?_;refine hcv (fun h1=>?_) (fun h1=>?_)
 · refine w_5 ?_;refine hrr ?_;have he:=bcx h0 bqy;exact f9 rfl rfl (⟨cci (congrArg asI he.1.symm),cci he.2.symm,trivial⟩)
 refine w_3 ?_;have hv:=ep h0;refine w_6 ?_;refine b7 (ka 0 (ka 1 kn)) km (fun k=>⟨[(2,some (vA (jj n l s k))),(9,some (vI (n - 1 - (k:Int))))],[]⟩) n.toNat ⟨⟨zy,⟨_,rfl,(coi bqx)⟩,trivial⟩,trivial⟩ ?_;rintro k hk;refine w_6 ?_;refine hcd (fun h2=>?_) (fun h2=>?_)
 ·
  refine pg ?_;refine rc rfl rfl rfl rfl rfl rfl aep (ajw n l (noA (jj n l s k) (n.toNat - 1 - k))) (⟨CoC.refl _,CoC.refl _,cci (a16 _ _ bqx),trivial⟩) rfl rfl ?_;refine c6 ?_;refine hcb (fun h3=>?_) (fun h3=>?_)
  ·
   refine w_9 ?_
   first | (refine ⟨k + 1, ?_, ?_, ?_⟩
            · show k + 1 <= _;omega
            · first | omega | (dsimp only;omega)
            exact ⟨⟨⟨_,rfl,(bn ((a16 _ (n.toNat - 1 - k) bqx).trans (congrArg asI (a3b bqy).symm)))⟩,⟨_,rfl,(coi bqx)⟩,tt⟩,trivial⟩)
         | (refine ⟨k + 1, ?_, ?_, ?_⟩
            · show k + 1 <= _;omega
            · first | omega | (dsimp only;omega)
            exact ⟨⟨⟨_,rfl,(bn (by rw [a33 bqy]))⟩,⟨_,rfl,(coi bqx)⟩,tt⟩,trivial⟩)
  refine w_6 ?_
  first | (refine ⟨k + 1, ?_, ?_, ?_⟩
           · show k + 1 <= _;omega
           · first | omega | (dsimp only;omega)
           exact ⟨⟨⟨_,rfl,(bn ((a16 _ (n.toNat - 1 - k) bqx).trans (congrArg asI (a3b bqy).symm)))⟩,⟨_,rfl,(coi bqx)⟩,tt⟩,trivial⟩)
        | (refine ⟨k + 1, ?_, ?_, ?_⟩
           · show k + 1 <= _;omega
           · first | omega | (dsimp only;omega)
           exact ⟨⟨⟨_,rfl,(bn (by rw [a33 bqy]))⟩,⟨_,rfl,(coi bqx)⟩,tt⟩,trivial⟩)
 refine w_7 ?_;refine hrr ?_;have he:=b3s h0 bqy;obtain rfl:k = n.toNat:=by omega
 exact f9 rfl rfl (⟨cci (congrArg asI he.1.symm),cci he.2.symm,trivial⟩)
def b10 (n:Int) (l:List Fd) (s:AS):a6 brj 84 [pI n,pP (fdl l),pA s] (a8 [pA (rkS n l s),pI (rkE n l s)]):=by
 refine hpx (nt:=44) Tryz.func84 ?_;refine bz ?_;refine qcx a2u (z7 n l) ?_;refine w_7 ?_;refine hcn (fun h0=>?_) (fun h0=>?_)
 · refine w_6 ?_;refine hrr ?_;have he:=bdb (s:=s) h0;exact f9 rfl rfl (⟨cci (congrArg asI he.1.symm),cci he.2.symm,trivial⟩)
 refine w_7 ?_;refine qcx (wgx Tryz.func143) (avw n l s) ?_;refine w_2 ?_;refine hcv (fun h1=>?_) (fun h1=>?_)
 · refine w_5 ?_;refine hrr ?_;have he:=bcx h0 bqy;exact f9 rfl rfl (⟨cci (congrArg asI he.1.symm),cci he.2.symm,trivial⟩)
 refine w_3 ?_;have hv:=ep h0;refine w_6 ?_;refine b7 (ka 0 (ka 1 kn)) km (fun k=>⟨[(2,some (vA (jj n l s k))),(9,some (vI (n - 1 - (k:Int))))],[]⟩) n.toNat ⟨⟨zy,⟨_,rfl,(coi bqx)⟩,trivial⟩,trivial⟩ ?_;rintro k hk;refine w_6 ?_;refine hcd (fun h2=>?_) (fun h2=>?_)
 ·
  refine w_7 ?_;refine qcx oq (a2g (jj n l s k) (n - 1 - (k:Int))) ?_;refine qy ?_;refine ai rfl rfl (fun r3=>?_) (fun r3=>?_)
  ·
   have h3:=r3;(iterate 6 refine qy ?_ (hg:=(gtt r3)));refine rc rfl rfl rfl rfl rfl rfl (wgx Tryz.func143) (avw n l (noA (jj n l s k) (n.toNat - 1 - k))) (⟨CoC.refl _,CoC.refl _,cci (a16 _ _ bqx),trivial⟩) rfl (gtt r3) ?_
   refine w_2 ?_;refine aj _ rfl (fun r4=>?_) (fun r4=>?_)
   ·
    have h4:=bt r3 r4;refine en ?_
    first | (refine ⟨k + 1, ?_, ?_, ?_⟩
             · show k + 1 <= _;omega
             · first | omega | (dsimp only;omega)
             exact ⟨⟨⟨_,rfl,(bn ((a16 _ (n.toNat - 1 - k) bqx).trans (congrArg asI (a3b bqy).symm)))⟩,⟨_,rfl,(coi bqx)⟩,tt⟩,trivial⟩)
          | (refine ⟨k + 1, ?_, ?_, ?_⟩
             · show k + 1 <= _;omega
             · first | omega | (dsimp only;omega)
             exact ⟨⟨⟨_,rfl,(bn (by rw [a33 bqy]))⟩,⟨_,rfl,(coi bqx)⟩,tt⟩,trivial⟩)
          | (refine ⟨k + 1, ?_, ?_, ?_⟩
             · show k + 1 <= _;omega
             · first | omega | (dsimp only;omega)
             exact ⟨⟨⟨_,rfl,(bn (by rw [agd (by have hh:=gm (s:=jj n l s k) (i:=n.toNat - 1 - k) bqx;rw [<- hh];rw [show ((n.toNat - 1 - k:Nat):Int) = n - 1 - (k:Int) by omega];assumption)]))⟩,⟨_,rfl,(coi bqx)⟩,tt⟩,trivial⟩)
   have h4:=bt r3 r4;refine w_6 ?_
   first | (refine ⟨k + 1, ?_, ?_, ?_⟩
            · show k + 1 <= _;omega
            · first | omega | (dsimp only;omega)
            exact ⟨⟨⟨_,rfl,(bn ((a16 _ (n.toNat - 1 - k) bqx).trans (congrArg asI (a3b bqy).symm)))⟩,⟨_,rfl,(coi bqx)⟩,tt⟩,trivial⟩)
         | (refine ⟨k + 1, ?_, ?_, ?_⟩
            · show k + 1 <= _;omega
            · first | omega | (dsimp only;omega)
            exact ⟨⟨⟨_,rfl,(bn (by rw [a33 bqy]))⟩,⟨_,rfl,(coi bqx)⟩,tt⟩,trivial⟩)
         | (refine ⟨k + 1, ?_, ?_, ?_⟩
            · show k + 1 <= _;omega
            · first | omega | (dsimp only;omega)
            exact ⟨⟨⟨_,rfl,(bn (by rw [agd (by have hh:=gm (s:=jj n l s k) (i:=n.toNat - 1 - k) bqx;rw [<- hh];rw [show ((n.toNat - 1 - k:Nat):Int) = n - 1 - (k:Int) by omega];assumption)]))⟩,⟨_,rfl,(coi bqx)⟩,tt⟩,trivial⟩)
  have h3:=r3;(iterate 7 refine k9 (gft r3) ?_);refine rq rfl rfl rfl rfl rfl ?_ (hp:=r3);refine w_8 ?_
  first | (refine ⟨k + 1, ?_, ?_, ?_⟩
           · show k + 1 <= _;omega
           · first | omega | (dsimp only;omega)
           exact ⟨⟨⟨_,rfl,(bn ((a16 _ (n.toNat - 1 - k) bqx).trans (congrArg asI (a3b bqy).symm)))⟩,⟨_,rfl,(coi bqx)⟩,tt⟩,trivial⟩)
        | (refine ⟨k + 1, ?_, ?_, ?_⟩
           · show k + 1 <= _;omega
           · first | omega | (dsimp only;omega)
           exact ⟨⟨⟨_,rfl,(bn (by rw [a33 bqy]))⟩,⟨_,rfl,(coi bqx)⟩,tt⟩,trivial⟩)
        | (refine ⟨k + 1, ?_, ?_, ?_⟩
           · show k + 1 <= _;omega
           · first | omega | (dsimp only;omega)
           exact ⟨⟨⟨_,rfl,(bn (by rw [agd (by have hh:=gm (s:=jj n l s k) (i:=n.toNat - 1 - k) bqx;rw [<- hh];rw [show ((n.toNat - 1 - k:Nat):Int) = n - 1 - (k:Int) by omega];assumption)]))⟩,⟨_,rfl,(coi bqx)⟩,tt⟩,trivial⟩)
 refine w_7 ?_;refine hrr ?_;have he:=b3s h0 bqy;obtain rfl:k = n.toNat:=by omega
 exact f9 rfl rfl (⟨cci (congrArg asI he.1.symm),cci he.2.symm,trivial⟩)
end
section
def bC:Bool -> Nat -> PV:=fun b _=>.raw (.bool b)
def b18 (n:Int) (l:List Fd) (k:Nat):Bool:=decide (clo l (BitVec.ofNat 32 k) = a7 n)
def bl9 (n:Int) (l:List Fd) (i:Nat):List Bool:=(List.range (2 ^ n.toNat)).map fun k=>decide (k < i) && b18 n l k
def bmg (n:Int) (l:List Fd):List Bool:=bl9 n l (2 ^ n.toNat)
end
section
section
variable {n:Int} {l:List Fd}
def okA (n:Int) (l:List Fd) (i a:Nat):Bool:=b18 n l i && (List.range a).all fun b=>!(i.testBit b && b18 n l (i ^^^ 2 ^ b))
section
variable {i a:Nat} (hv:b5 n l = 0) (hi:i < 2 ^ n.toNat) (ha:(a:Int) < n) (hx:i ^^^ 2 ^ a < 2 ^ n.toNat)
include hv hi ha hx
end
end
end
section
def xc (s:AS):Nat -> AS -> List AS
 | 0,_=>[]
 | n + 1,x=>if x = 0 then [] else x :: xc s n ((x - 1) &&& s)
def fp (s:AS):List AS:=0 :: xc s (s.toNat + 1) s
def sub_zero (s:AS):sub 0 s:=ap.2 fun i hi h=>by simp at h
section
variable {s:AS}
def ahq:∀ (n:Nat) (x:AS),sub x s -> x.toNat < n -> ∀ z,z ∈ xc s n x <-> sub z s /\ z ≠ 0 /\ z.toNat <= x.toNat
 | 0,x,_,h,z=>absurd h (bmq _)
 | n + 1,x,hx,h,z=>by
  unfold xc;by_cases h0:x = 0
  · rw [if_pos h0]
    subst h0;constructor
    · intro h;cases h
    rintro ⟨_,h1,h2⟩;exact absurd (bnp (Nat.le_antisymm h2 (bms _))) h1
  rw [if_neg h0,bn0,ahq n _ a4p (by have:=qw (s:=s) h0;omega)];constructor
  · rintro (rfl | ⟨h1,h2,h3⟩)
    · exact ⟨hx,h0,bmp _⟩
    have:=qw (s:=s) h0;exact ⟨h1,h2,by omega⟩
  rintro ⟨h1,h2,h3⟩;by_cases he:z = x
  · exact .inl he
  have hne:z.toNat ≠ x.toNat:=fun e=>he (bnp e);exact .inr ⟨h1,h2,ac2 hx h1 bqx⟩
def xe {z:AS}:z ∈ fp s <-> sub z s:=by
 unfold fp;rw [bn0,ahq _ _ (sub_self s) (Nat.lt_succ_self _)];constructor
 · rintro (rfl | h)
   · exact sub_zero s
   exact h.1
 intro h;by_cases h0:z = 0
 · exact .inl h0
 exact .inr ⟨h,h0,a1x h⟩
def TsI (s:AS) (x:Nat × List AS × AS):Prop:=x.2.1 ++ xc s x.1 x.2.2 = fp s /\ x.2.2.toNat < x.1 /\ x.2.1.length + x.1 = s.toNat + 2
def b8q (s:AS):TsI s (s.toNat + 1,[0],s):=⟨rfl,Nat.lt_succ_self _,by dsimp only;rw [bo3];omega⟩
def b6m {x:Nat × List AS × AS} (h:TsI s x) (h0:x.2.2 ≠ 0):TsI s (x.1 - 1,x.2.1 ++ [x.2.2],(x.2.2 - 1) &&& s):=by
 obtain ⟨h1,h2,h3⟩:=h;obtain ⟨n,hn⟩:∃ n,x.1 = n + 1:=⟨x.1 - 1,by omega⟩;have hl:=qw (s:=s) h0;refine ⟨?_,by dsimp only;omega,by dsimp only;rw [bmo,bo3];omega⟩;rw [<- h1,hn];show (x.2.1 ++ [x.2.2]) ++ xc s n _ = _;rw [bnx]
 conv=>rhs;unfold xc
 rw [if_neg h0];rfl
def bf6 {x:Nat × List AS × AS} (h:TsI s x) (h0:x.2.2 = 0):x.2.1 = fp s:=by
 obtain ⟨h1,h2,h3⟩:=h;obtain ⟨n,hn⟩:∃ n,x.1 = n + 1:=⟨x.1 - 1,by omega⟩;rw [<- h1,hn];unfold xc;rw [if_pos h0,bnn]
def ai2 (s:AS):(fp s).length <= 4294967297:=by
 have:∀ n x,(xc s n x).length <= n:=by
  intro n
  induction n with
  | zero=>intro x;exact bmp _
  | succ n ih =>
   intro x;unfold xc;split
   · simp
   rw [bn9];have:=ih ((x - 1) &&& s);omega
 have h1:=this (s.toNat + 1) s;have:=s.isLt;unfold fp;rw [bn9];omega
variable {r:AS}
def bdx (h:r ≠ 0):r &&& (-r) = (1:AS) <<< j2 r:=by
 obtain ⟨h1,h2,h3,h4⟩:=wu h
 have e:-r = ~~~(r - 1):=by
  apply bnp;have h0:r.toNat ≠ 0:=fun e=>h (bnp e);have:=r.isLt;rw [BitVec.toNat_neg,BitVec.toNat_not,a49 h];omega
 rw [e];apply bo5;intro i hi;have h5:=congrArg (fun z:AS=>z.getLsbD i) h4;simp only [bn4,boo,decide_eq_true hi,bov] at h5;have h6:((1:AS) <<< j2 r).getLsbD i = decide (i = j2 r):=rp _ i hi;rw [bn4,boo,decide_eq_true hi,bov,h6];rw [h6] at h5;by_cases hl:i = j2 r
 · subst hl
   rw [h2] at h5 ⊢;simpa using h5
 rw [decide_eq_false hl] at h5 ⊢;cases hr:r.getLsbD i <;> rw [hr] at h5 <;> simpa using h5
def bi0 (r:AS) (h:r ≠ 0) {a:Int} (ha:a = IntKind.wrap .u32 (0 - asI r)):az .and .u32 (asI r) a = asI ((1:AS) <<< j2 r):=by
 have e:a = asI (-r):=by
  rw [ha];have h0:r.toNat ≠ 0:=fun e=>h (bnp e);have:=r.isLt;unfold asI;rw [BitVec.toNat_neg];simp only [IntKind.wrap,IntKind.signed,IntKind.bits];simp;omega
 rw [e,fv,bdx h]
def lq (l:List Fd) (p s:AS):Bool:=decide (sub p (clo l s))
variable {l:List Fd} {p:AS}
def sk:decide (az .and .u32 (asI (clo l s)) (asI p) = asI p) = lq l p s:=by
 rw [fv,adc];unfold lq;refine decide_eq_decide.2 ⟨fun e=>?_,fun e=>?_⟩
 · rw [<- e];exact ml
 refine ef a1m (a6w e (gz p))
def a0t (l:List Fd) (p x:AS):Bool:=(List.range 32).all fun a=>!(x.getLsbD a && lq l p (noA x a))
variable {x:AS}
def bcb {a:Nat} (ha:a < 32) (h:x.getLsbD a = true) (h2:lq l p (noA x a) = true):a0t l p x = false:=by
 unfold a0t;rw [List.all_eq_false];exact ⟨a,bn3.2 ha,by rw [h,h2];decide⟩
def bde (h2:∀ a,a < 32 -> x.getLsbD a = true -> lq l p (noA x a) = false):a0t l p x = true:=by
 unfold a0t;rw [bnr];intro a ha
 cases hx:x.getLsbD a with
 | false=>rfl
 | true=>rw [h2 a (bn3.1 ha) hx];rfl
def ags (l:List Fd) (p x r:AS):Prop:=sub r x /\ ∀ a,a < 32 -> x.getLsbD a = true -> r.getLsbD a = true \/ lq l p (noA x a) = false
def b40 (l:List Fd) (p x:AS):ags l p x x:=⟨gz x,fun a _ h=>.inl h⟩
def b7r (h:ags l p x r) (h0:r ≠ 0):j2 r < 32 /\ x.getLsbD (j2 r) = true:=by
 obtain ⟨h1,h2,_,_⟩:=wu h0;exact ⟨h1,ap.1 h.1 _ h1 h2⟩
def b1b (h:ags l p x r) (h0:r ≠ 0) (hf:lq l p (noA x (j2 r)) = false):ags l p x (r &&& (r - 1)):=by
 obtain ⟨h1,h2,h3,h4⟩:=wu h0;rw [h4];refine ⟨fq ml h.1,fun a ha hx=>?_⟩
 rcases h.2 a ha hx with h5 | h5
 · by_cases hl:a = j2 r
   · subst hl;exact .inr hf
   refine .inl ?_;have h6:((1:AS) <<< j2 r).getLsbD a = decide (a = j2 r):=rp _ a ha;rw [bn4,boo,decide_eq_true ha,bov,h5,h6,decide_eq_false hl];rfl
 exact .inr h5
def b90 (h:ags l p x r) (h0:r = 0):a0t l p x = true:=bde fun a ha hx=>by
 rcases h.2 a ha hx with h5 | h5
 · subst h0;simp at h5
 exact h5
def bev (h:r ≠ 0):(r &&& (r - 1)).toNat < r.toNat:=by
 have h1:=a49 h;have h0:r.toNat ≠ 0:=fun e=>h (bnp e);rw [bpk,h1];have:(r.toNat &&& (r.toNat - 1)) <= r.toNat - 1:=bpl;omega
def a09 (l:List Fd) (p x:AS):Bool:=lq l p x && a0t l p x
def oh (l:List Fd) (p:AS):AS:=orL ((fp p).filter (a09 l p))
def a3t {k:Nat}:∀ {ps:List AS} {s:AS},(ps.foldl (· ||| ·) s).getLsbD k = (s.getLsbD k || ps.any fun x=>x.getLsbD k)
 | [],s=>by simp
 | x :: ps,s=>by
  rw [bor,a3t,bo9,List.any_cons,Bool.or_assoc]
def b1g {a b:List AS} (h:∀ z,z ∈ a <-> z ∈ b):orL a = orL b:=by
 apply bo5;intro i hi;unfold orL;rw [a3t,a3t];congr 1;rw [bom,bno,bno];exact ⟨fun ⟨x,h1,h2⟩=>⟨x,(h x).1 h1,h2⟩,fun ⟨x,h1,h2⟩=>⟨x,(h x).2 h1,h2⟩⟩
def vo (l:List Fd) (p:AS) (i:Nat):AS:=orL (((fp p).take i).filter (a09 l p))
def aq7 (a:List AS) (x:AS):orL (a ++ [x]) = orL a ||| x:=by unfold orL;rw [bo0];rfl
def ab0 {i:Nat} (hi:i < (fp p).length) (h:a09 l p ((fp p).getD i default) = true):vo l p (i + 1) = vo l p i ||| (fp p).getD i default:=by
 unfold vo;rw [aq hi,bnv];simp only [bns,h,if_true,boh];exact aq7 _ _
def w8 {i:Nat} (hi:i < (fp p).length) (h:a09 l p ((fp p).getD i default) = false):vo l p (i + 1) = vo l p i:=by
 unfold vo;rw [aq hi,bnv];simp only [bns,h,bo1,if_false,boh,bnn]
def aux (l:List Fd) (p:AS):vo l p (fp p).length = oh l p:=by unfold vo oh;rw [bmt]
def adb (h:lq l p x = true) (h2:a0t l p x = true):a09 l p x = true:=by unfold a09;rw [h,h2];rfl
def a8k (h:lq l p x = false):a09 l p x = false:=by unfold a09;rw [h];rfl
def a9i (h:a0t l p x = false):a09 l p x = false:=by unfold a09;rw [h];simp
end
end
section
open Go.Proofs
def az7 (s:AS):a6 brj 204 [pA s] (a8 [pP (asl (fp s))]):=by
 refine hpx (nt:=18) Tryz.func204 ?_;refine w_6 ?_;refine m9 0 ?_;refine w_9 ?_;refine ae (ι:=Nat × List AS × AS) (ka 0 kn) km (fun x=>⟨[(3,some (.v (.one (.ref 0 x.2.1.length)))),(4,some (vA x.2.2))],[(0,some (.arr true 1 46 x.2.1.length (lf sC x.2.1)))]⟩) (fun x=>TsI s x) (fun x=>x.1) ((s.toNat + 1,[0],s)) (b8q s) ⟨tt,⟨⟨_,rfl,(qi (CoP.refl _))⟩,trivial⟩⟩ ?_;rintro x hx;have hlen:=hx.2;have hsl:=s.isLt;refine w_6 ?_;refine hcn (fun h0=>?_) (fun h0=>?_)
 ·
  have hne:x.2.2 ≠ 0:=fun e=>h0 (by rw [e];rfl);refine w_6 ?_;refine m9 1 ?_;refine r9 2 true ?_;refine w_4 ?_;refine rq rfl rfl rfl rfl rfl ?_ (hp:=(a0f hne));refine w_4 ?_;refine ⟨(x.1 - 1,x.2.1 ++ [x.2.2],(x.2.2 - 1) &&& s), ?_, ?_, ?_⟩
  · exact b6m hx hne
  · dsimp only
    omega
  exact ⟨⟨⟨_,rfl,(bf rfl)⟩,⟨_,rfl,(bn (a0q hne))⟩,tt⟩,⟨⟨_,rfl,(bg rfl (CoP.refl _))⟩,trivial⟩⟩
 have hz:x.2.2 = 0:=c7.1 h0;refine w_6 ?_;refine al 2 rfl rfl rfl ?_;exact hx8 rfl rfl rfl (⟨CoC.one (CoP.of_eq (by rw [<- bf6 hx hz];rfl)),trivial⟩)
def bj2 (l:List Fd) (p x:AS):a6 brj 238 [pP (fdl l),pA p,pA x] (a8 [pB (a0t l p x)]):=by
 refine hpx (nt:=27) Tryz.func238 ?_;refine cq ?_;refine ae (ι:=AS) (ka 0 (ka 1 (ka 2 kn))) km (fun r=>⟨[(7,some (vA r))],[]⟩) (fun r=>ags l p x r) (fun r=>r.toNat) (x) (b40 l p x) kk ?_;rintro r hr;refine w_6 ?_;refine hcn (fun h0=>?_) (fun h0=>?_)
 ·
  have hne:r ≠ 0:=fun e=>h0 (by rw [e];rfl);have hlow:=b7r hr hne;refine w_9 ?_;refine rqw rfl rfl rfl rfl rfl ?_;refine w_2 ?_;refine rc rfl rfl rfl rfl rfl rfl ur (xj l (noA x (j2 r))) (⟨CoC.refl _,cci (by rw [bi0 r hne rfl,gl];rfl),trivial⟩) rfl rfl ?_;refine w_5 ?_;refine hcd (fun h1=>?_) (fun h1=>?_)
  · refine v_4 ?_;exact ⟨ccb (bcb hlow.1 hlow.2 (sk.symm.trans (decide_eq_true bqy))).symm,trivial⟩
  refine w_4 ?_;refine rq rfl rfl rfl rfl rfl ?_ (hp:=(a0f hne));refine w_3 ?_;refine ⟨r &&& (r - 1), ?_, ?_, ?_⟩
  · exact b1b hr hne (sk.symm.trans (decide_eq_false bqy))
  · exact bev hne
  exact ⟨⟨⟨_,rfl,(bn (ap6 hne))⟩,tt⟩,trivial⟩
 have hz:r = 0:=c7.1 h0;refine v_5 ?_;exact ⟨ccb (b90 hr hz).symm,trivial⟩
def b7j (l:List Fd) (p:AS):a6 brj 203 [pP (fdl l),pA p] (a8 [pA (oh l p)]):=by
 refine hpx (nt:=33) Tryz.func203 ?_;refine bz ?_;have htl:=ai2 p;refine w_2 ?_;refine qcx (wgx Tryz.func204) (az7 p) ?_;refine w_4 ?_;refine b7 (ka 0 (ka 1 (ka 9 (ka 10 kn)))) km (fun i=>⟨[(5,some (vA (vo l p i))),(11,some (vI i))],[]⟩) ((fp p).length) ⟨⟨⟨_,rfl,(bn rfl)⟩,tt⟩,trivial⟩ ?_;rintro i hi;refine w_5 ?_;refine hcd (fun h0=>?_) (fun h0=>?_)
 ·
  refine jd ?_;refine qcx ur (xj l ((fp p).getD i default)) ?_;refine w_5 ?_;refine ai rfl rfl (fun r1=>?_) (fun r1=>?_)
  ·
   have h1:=tz1 r1;(iterate 3 refine qy ?_ (hg:=(gtt r1)));refine qcx (wgx Tryz.func238) (bj2 l p ((fp p).getD i default)) ?_ (hg:=(gtt r1));refine w_2 ?_;refine aj _ rfl (fun r2=>?_) (fun r2=>?_)
   · have h2:=bt r1 r2;refine bz ?_;exact lpx (i + 1) ⟨⟨⟨_,rfl,(by first | exact bn (by rw [bOr,ab0 bqx (adb (sk.symm.trans (decide_eq_true bqy)) bqy)];rfl) | exact bn (by rw [w8 bqx (a9i bqy)]) | exact bn (by rw [w8 bqx (a8k (sk.symm.trans (decide_eq_false bqy)))]))⟩,tt⟩,trivial⟩
   have h2:=bt r1 r2;refine w_5 ?_;exact lpx (i + 1) ⟨⟨⟨_,rfl,(by first | exact bn (by rw [bOr,ab0 bqx (adb (sk.symm.trans (decide_eq_true bqy)) bqy)];rfl) | exact bn (by rw [w8 bqx (a9i bqy)]) | exact bn (by rw [w8 bqx (a8k (sk.symm.trans (decide_eq_false bqy)))]))⟩,tt⟩,trivial⟩
  have h1:=tz2 r1;(iterate 4 refine k9 (gft r1) ?_);refine rq rfl rfl rfl rfl rfl ?_ (hp:=r1);refine w_7 ?_
  exact lpx (i + 1) ⟨⟨⟨_,rfl,(by first | exact bn (by rw [bOr,ab0 bqx (adb (sk.symm.trans (decide_eq_true bqy)) bqy)];rfl) | exact bn (by rw [w8 bqx (a9i bqy)]) | exact bn (by rw [w8 bqx (a8k (sk.symm.trans (decide_eq_false bqy)))]))⟩,tt⟩,trivial⟩
 obtain rfl:i = (fp p).length:=by omega
 refine v_6 ?_;exact ⟨cci (by rw [aux]),trivial⟩
end
end Go.Hx

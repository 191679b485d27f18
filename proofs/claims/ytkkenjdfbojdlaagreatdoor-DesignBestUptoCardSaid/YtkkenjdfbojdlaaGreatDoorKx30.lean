/- A part of the proof: Cc1 Cc2 Cc3 Ls1 Cs24 Cs26 V25 Cs27 Cs28 Cs30 V29. -/
import Derived.Test.YtkkenjdfbojdlaaGreatDoorKx29
set_option linter.all false
set_option maxRecDepth 100000
namespace Go.Hx
section
def AgE (E:Int -> Int -> Prop) (a b:Rw) (s:AS):Prop:=∀ i:Nat,i < a.length -> d6 s (i:Int) = true -> E (a.getD i default) (b.getD i default)
structure Mdl (N:Nat) (p m:List Fd) (E:Int -> Int -> Prop) (R:Rw -> Prop):Prop where
 refl:∀ x,E x x
 symm:∀ {x y},E x y -> E y x
 trans:∀ {x y z},E x y -> E y z -> E x z
 len:∀ {r},R r -> r.length = N
 cong:∀ {r r':Rw},R r -> r'.length = r.length -> (∀ i,i < r.length -> E (r.getD i default) (r'.getD i default)) -> R r'
 fd:∀ {x},x ∈ p -> ∀ {a b},R a -> R b -> AgE E a b x.lhs -> AgE E a b x.rhs
 mv:∀ {x},x ∈ m -> ∀ {a b},R a -> R b -> AgE E a b x.lhs -> R (ef a b (x.lhs ||| x.rhs))
def LE (N:Nat) (p m:List Fd) (l:List Rw) (x y:Int):Prop:=∀ E R,Mdl N p m E R -> (∀ r,r ∈ l -> R r) -> E x y
def LR (N:Nat) (p m:List Fd) (l:List Rw) (r:Rw):Prop:=∀ E R,Mdl N p m E R -> (∀ r,r ∈ l -> R r) -> R r
def b9q (N:Nat) (p m:List Fd):Mdl N p m (fun _ _=>True) (fun r=>r.length = N) :=
 ⟨fun _=>trivial,fun _=>trivial,fun _ _=>trivial,fun h=>h,fun h e _=>e.trans h,fun _ _ _ _ _ _ _ _ _=>trivial,fun _ a b _ hb _=>(qi _ _ _).trans hb⟩
def a8d {N:Nat} {p m:List Fd} {l:List Rw} (hl:∀ r,r ∈ l -> r.length = N):Mdl N p m (LE N p m l) (LR N p m l) where
 refl x:=fun E R h _=>h.refl x
 symm h:=fun E R k kl=>k.symm (h E R k kl)
 trans h h2:=fun E R k kl=>k.trans (h E R k kl) (h2 E R k kl)
 len h:=h _ _ (b9q N p m) hl
 cong h e h2:=fun E R k kl=>k.cong (h E R k kl) e fun i hi=>h2 i hi E R k kl
 fd hx _ _ ha hb hl:=fun i hi hs E R k kl=>k.fd hx (ha E R k kl) (hb E R k kl) (fun j hj hh=>hl j hj hh E R k kl) i hi hs
 mv hx _ _ ha hb hl:=fun E R k kl=>k.mv hx (ha E R k kl) (hb E R k kl) fun j hj hh=>hl j hj hh E R k kl
structure Ch (N:Nat) (p m:List Fd) (l0 l:List Rw) (σ:Int -> Int):Prop where
 rows:∀ r,r ∈ l -> LR N p m l0 r
 sym:∀ s,LE N p m l0 s (σ s)
 img:∀ r,r ∈ l0 -> r.map σ ∈ l
 fix:∀ r,r ∈ l -> ∀ z,z ∈ r -> σ z = z
 le:∀ s,σ s <= s
section
variable {N:Nat} {p m:List Fd} {l0 l l':List Rw} {σ σ':Int -> Int} {n:Int}
theorem Ch.start:Ch N p m l0 l0 id:=⟨fun r hr E R _ hl=>hl r hr,fun s E R k _=>k.refl s,fun r hr=>by rw [List.map_id];exact hr,fun _ _ _ _=>rfl,fun s=>Int.le_refl s⟩
theorem Ch.congr (h:Ch N p m l0 l σ) (e:∀ r,r ∈ l' <-> r ∈ l):Ch N p m l0 l' σ :=
 ⟨fun r hr=>h.rows r ((e r).1 hr),h.sym,fun r hr=>(e _).2 (h.img r hr),fun r hr=>h.fix r ((e r).1 hr),h.le⟩
def s5 (hi lo z:Int):Int:=if z = hi then lo else z
section
variable {f:Int -> Int}
def lh {r:Rw} {i:Nat} (h:i < r.length):(r.map f).getD i default = f (r.getD i default):=by
 rw [bmb,bn0,bma h,bmb,bma h];rfl
theorem Ch.sub (hl0:∀ r,r ∈ l0 -> r.length = N) (h:Ch N p m l0 l σ) {hi lo:Int} (hE:LE N p m l0 hi lo) (hle:lo <= hi) (hin:∃ r,r ∈ l /\ lo ∈ r):Ch N p m l0 (l.map fun r=>r.map (s5 hi lo)) (fun s=>s5 hi lo (σ s)):=by
 have hm:=a8d (p:=p) (m:=m) hl0
 have hs:∀ z,LE N p m l0 z (s5 hi lo z):=fun z=>by
  unfold s5;split
  · rename_i e;rw [e];exact hE
  exact hm.refl z
 refine ⟨fun r hr=>?_,fun s=>hm.trans (h.sym s) (hs _),fun r hr=>?_,fun r hr z hz=>?_,fun s=>?_⟩
 · obtain ⟨r0,h0,rfl⟩:=bn2.1 hr
   exact hm.cong (h.rows r0 h0) bqm fun i hi=>by rw [lh hi];exact hs _
 · refine bn2.2 ⟨_,h.img r hr, ?_⟩
   rw [List.map_map];rfl
 · obtain ⟨r0,h0,rfl⟩:=bn2.1 hr
   obtain ⟨y,hy,rfl⟩:=bn2.1 hz;obtain ⟨r1,h1,h2⟩:=hin;have e1:=h.fix r0 h0 y hy;have e2:=h.fix r1 h1 lo h2;by_cases e:y = hi
   · have e3:s5 hi lo y = lo:=if_pos e
     show s5 hi lo (σ (s5 hi lo y)) = s5 hi lo y;rw [e3,e2];unfold s5;split <;> rfl
   have e3:s5 hi lo y = y:=if_neg e;show s5 hi lo (σ (s5 hi lo y)) = s5 hi lo y;rw [e3,e1,e3]
 have h1:=h.le s
 have h2:s5 hi lo (σ s) <= σ s:=by
  unfold s5;split <;> omega
 exact Int.le_trans h2 h1
def atq {M:Nat -> Nat -> Int} {a b j:Nat}:en l (eqM M a b j) = (en l M).map fun r=>r.map (s5 (hiI (M a j) (M b j)) (loI (M a j) (M b j))):=by
 unfold en;rw [List.map_map];refine boo fun i _=>?_;show _ = List.map _ (List.map _ _);rw [List.map_map];rfl
def aw6 {M:Nat -> Nat -> Int} {a j:Nat} (ha:a < l.length) (hj:j < (l.getD a default).length):∃ r,r ∈ en l M /\ M a j ∈ r :=
 aau.2 ⟨a,j,ha,hj,rfl⟩
theorem Ch.eqMs (hl0:∀ r,r ∈ l0 -> r.length = N) {a b:Nat} (ha:a < l.length) (hb:b < l.length):∀ {js:List Nat} {M:Nat -> Nat -> Int} {σ:Int -> Int},Ch N p m l0 (en l M) σ -> (∀ j,j ∈ js -> j < (l.getD a default).length /\ j < (l.getD b default).length /\ LE N p m l0 (M a j) (M b j)) ->
 ∃ σ',Ch N p m l0 (en l (eqMs M a b js)) σ'
 | [],M,σ,h,_=>⟨σ,h⟩
 | j :: js,M,σ,h,hj=>by
  obtain ⟨h1,h2,h3⟩:=hj j bqm;have hm:=a8d (p:=p) (m:=m) hl0;have hlo:loI (M a j) (M b j) <= hiI (M a j) (M b j):=by unfold loI hiI;split <;> split <;> omega
  have hE:LE N p m l0 (hiI (M a j) (M b j)) (loI (M a j) (M b j)):=by
   rcases b52 (M a j) (M b j) with e | e <;> rcases ate (M a j) (M b j) with f | f <;> rw [e,f]
   · exact hm.refl _
   · exact h3
   · exact hm.symm h3
   exact hm.refl _
  have hin:∃ r,r ∈ en l M /\ loI (M a j) (M b j) ∈ r:=by
   rcases ate (M a j) (M b j) with f | f <;> rw [f]
   · exact aw6 ha h1
   exact aw6 hb h2
  have hq:=h.sub hl0 hE hlo hin;rw [<- atq] at hq
  have hs:∀ z,LE N p m l0 z (if z = hiI (M a j) (M b j) then loI (M a j) (M b j) else z):=fun z=>by
   split
   · rename_i e;rw [e];exact hE
   exact hm.refl z
  exact Ch.eqMs hl0 ha hb (js:=js) hq fun k hk=>by
   obtain ⟨h4,h5,h6⟩:=hj k (by simp [hk]);exact ⟨h4,h5,hm.trans (hm.symm (hs (M a k))) (hm.trans h6 (hs (M b k)))⟩
def ap3:en l (ce l) = l:=by
 refine ol (mf _ _) fun i hi=>?_;rw [mf] at hi;rw [agu hi];refine ol bqm fun k hk=>?_;simp only [bms,boq] at hk;rw [bmb,bn0,bny hk];rfl
def ath (hl0:∀ r,r ∈ l0 -> r.length = N) {a b:Rw} {s:AS} (h:lm a b s = true):AgE (LE N p m l0) a b s:=fun i hi hs=>by
 rw [of_decide_eq_true h i hi hs];exact (a8d hl0).refl _
def dl {α:Type} [Inhabited α] {l:List α} {i:Nat} (h:i < l.length):l.getD i default ∈ l:=by
 rw [bmb,bma h];exact bmz h
def b0t {a b:Rw} {s:AS} (hl:a.length = b.length) {z:Int} (hz:z ∈ ef a b s):z ∈ a \/ z ∈ b:=by
 unfold ef at hz;rw [bn2] at hz;obtain ⟨i,hi,rfl⟩:=hz;have hi:=bmq.1 hi;split
 · exact .inl (dl bqi)
 exact .inr (dl hi)
def bbu (l:List Rw) (p m:List Fd) (s:St):Prop:=s.2.2.1 < l.length /\ s.2.2.2 < l.length /\ (s.1 = false -> s.2.1 < p.length) /\ (s.1 = true -> s.2.1 < m.length)
theorem Ch.app (hl0:∀ r,r ∈ l0 -> r.length = n.toNat) (hT:tok n l = true) (hp:p.all (inU n) = true) (h:Ch n.toNat p m l0 l σ) {s:St} (hs:bbu l p m s) (he:(dx n l p m s).2.2 = 0) :
 (dx n l p m s).1 = n /\ ∃ σ',Ch n.toNat p m l0 (dx n l p m s).2.1 σ':=by
 obtain ⟨mu,i,a,b⟩:=s;obtain ⟨ha,hb,hf,hv⟩:=hs;obtain ⟨h0,h1,h2,h3⟩:=jk hT;have ha:a < l.length:=ha;have hb:b < l.length:=hb;have hra:=h3 a ha;have hrb:=h3 b hb
 cases mu with
 | false =>
  have hi:i < p.length:=hf rfl;have e0:dx n l p m (false,i,a,b) = fdE n l a b (p.getD i default):=rfl;rw [e0] at he ⊢;by_cases hg:lm (l.getD a default) (l.getD b default) (p.getD i default).lhs = true
  · have e1:fdE n l a b (p.getD i default) = (n,av (en l (Go.Hx.eqMs (ce l) a b (aj (p.getD i default).rhs))),0):=if_pos hg
    rw [e1];refine ⟨rfl, ?_⟩;have hu:inU n (p.getD i default) = true:=bnh.1 hp _ (dl hi);have hm:=a8d (p:=p) (m:=m) hl0;have hR:=hm.fd (dl hi) (h.rows _ (dl ha)) (h.rows _ (dl hb)) (ath hl0 hg)
    obtain ⟨σ',hσ⟩:=Ch.eqMs (p:=p) (m:=m) hl0 ha hb (js:=aj (p.getD i default).rhs) (M:=ce l) (σ:=σ) (by rw [ap3];exact h) fun j hj=>by
     have h4:=a7w h0 h1 hu hj;have h5:=j8.1 hj;refine ⟨Nat.lt_of_lt_of_eq h4 hra.symm,Nat.lt_of_lt_of_eq h4 hrb.symm,hR j (Nat.lt_of_lt_of_eq h4 hra.symm) (by rw [gk h5.1];exact h5.2)⟩
    exact ⟨σ',hσ.congr fun r=>gv⟩
  have e1:fdE n l a b (p.getD i default) = (0,[],1):=if_neg hg;rw [e1] at he;exact absurd he bqo
 | true =>
  have hi:i < m.length:=hv rfl;have e0:dx n l p m (true,i,a,b) = mvE n l a b (m.getD i default):=rfl;rw [e0] at he ⊢;by_cases hg:lm (l.getD a default) (l.getD b default) (m.getD i default).lhs = true
  · have e1:mvE n l a b (m.getD i default) = w4 n l (ef (l.getD a default) (l.getD b default) ((m.getD i default).lhs ||| (m.getD i default).rhs)):=if_pos hg
    rw [e1] at he ⊢;by_cases hbig:256 < (av (l ++ [ef (l.getD a default) (l.getD b default) ((m.getD i default).lhs ||| (m.getD i default).rhs)])).length
    · have e2:w4 n l (ef (l.getD a default) (l.getD b default) ((m.getD i default).lhs ||| (m.getD i default).rhs)) = (0,[],3):=if_pos hbig
      rw [e2] at he;exact absurd he bqo
    have e2:w4 n l (ef (l.getD a default) (l.getD b default) ((m.getD i default).lhs ||| (m.getD i default).rhs)) = (n,av (l ++ [ef (l.getD a default) (l.getD b default) ((m.getD i default).lhs ||| (m.getD i default).rhs)]),0):=if_neg hbig;rw [e2];refine ⟨rfl,σ, ?_⟩;have hm:=a8d (p:=p) (m:=m) hl0;have hR:=hm.mv (dl hi) (h.rows _ (dl ha)) (h.rows _ (dl hb)) (ath hl0 hg);refine ⟨fun r hr=>?_,h.sym,fun r hr=>gv.2 (bmv _ (h.img r hr)),fun r hr z hz=>?_,h.le⟩
    · rcases bmu.1 (gv.1 hr) with h4 | h4
      · exact h.rows r h4
      rw [bmx.1 h4];exact hR
    rcases bmu.1 (gv.1 hr) with h4 | h4
    · exact h.fix r h4 z hz
    rw [bmx.1 h4] at hz
    rcases b0t bqi hz with h5 | h5
    · exact h.fix _ (dl ha) z h5
    exact h.fix _ (dl hb) z h5
  have e1:mvE n l a b (m.getD i default) = (0,[],1):=if_neg hg;rw [e1] at he;exact absurd he bqo
def acq {P:Nat -> Nat -> Nat -> Bool} {I L:Nat} (h:fz P I L = none) {i a b:Nat} (hi:i < I) (ha:a < L) (hb:b < L):P i a b = false:=by
 unfold fz at h;rw [boz] at h;have h1:=h i (bmq.2 hi);rw [boz] at h1;have h2:=h1 a (bmq.2 ha);rw [Option.map_eq_none_iff,bpb] at h2;exact bmm.2 (h2 b (bmq.2 hb))
def awl (h:f7 l p m = none):(∀ i,i < p.length -> ∀ a,a < l.length -> ∀ b,b < l.length -> ff l (p.getD i default) a b = false) /\ ∀ i,i < m.length -> ∀ a,a < l.length -> ∀ b,b < l.length -> fk l (m.getD i default) a b = false:=by
 unfold f7 at h;split at h
 · cases h
 rename_i e;rw [Option.map_eq_none_iff] at h;exact ⟨fun i hi a ha b hb=>acq (P:=fun i a b=>ff l (p.getD i default) a b) e hi ha hb,fun i hi a ha b hb=>acq (P:=fun i a b=>fk l (m.getD i default) a b) h hi ha hb⟩
def xr {α:Type} [Inhabited α] {l:List α} {x:α} (h:x ∈ l):∃ i,i < l.length /\ l.getD i default = x:=by
 obtain ⟨i,hi,rfl⟩:=bn1 h;exact ⟨i,hi,by rw [bmb,bma hi];rfl⟩
def b2z {a b:Rw} {s:AS} (hl:a.length = b.length):ef (a.map f) (b.map f) s = (ef a b s).map f:=by
 unfold ef;rw [List.map_map,bms];refine boo fun i hi=>?_;have hi:=bmq.1 hi;show _ = f (if d6 s (i:Int) = true then a.getD i default else b.getD i default);split
 · rw [lh bqi]
 rw [lh hi]
theorem Ch.mdl (hT:tok n l = true) (hn:f7 l p m = none) (σ:Int -> Int):Mdl n.toNat p m (fun x y=>σ x = σ y) (fun r=>r.length = n.toNat /\ r.map σ ∈ l):=by
 obtain ⟨hF,hM⟩:=awl hn;refine ⟨fun _=>rfl,fun h=>h.symm,fun h k=>h.trans k,fun h=>h.1,fun {r r'} h e h2=>⟨e.trans h.1, ?_⟩,fun {x} hx {a b} ha hb hl i hi hs=>?_,fun {x} hx {a b} ha hb hl=>⟨(qi _ _ _).trans hb.1, ?_⟩⟩
 · have:r'.map σ = r.map σ:=by
    refine ol (by simp [e]) fun i hi=>?_;rw [bms] at hi;rw [lh hi,lh bqi];exact (h2 i bqi).symm
   rw [this];exact h.2
 · obtain ⟨k,hk,rfl⟩:=xr hx
   obtain ⟨ia,hia,ea⟩:=xr ha.2;obtain ⟨ib,hib,eb⟩:=xr hb.2;have h1:=hF k hk ia hia ib hib;unfold ff at h1;rw [ea,eb,a3c (fun j hj hs=>by rw [bms] at hj;rw [lh hj,lh (by rw [hb.1,<- ha.1];exact hj)];exact hl j hj hs),boi,Bool.not_eq_false'] at h1;have h2:=of_decide_eq_true h1 i (by rw [bms];exact hi) hs;rw [lh hi,lh (by rw [hb.1,<- ha.1];exact hi)] at h2;exact h2
 obtain ⟨k,hk,rfl⟩:=xr hx;obtain ⟨ia,hia,ea⟩:=xr ha.2;obtain ⟨ib,hib,eb⟩:=xr hb.2;have h1:=hM k hk ia hia ib hib;unfold fk at h1;rw [ea,eb,a3c (fun j hj hs=>by rw [bms] at hj;rw [lh hj,lh (by rw [hb.1,<- ha.1];exact hj)];exact hl j hj hs),boi,Bool.not_eq_false'] at h1;obtain ⟨r,hr,e⟩:=bne.1 h1;rw [<- b2z (by rw [ha.1,hb.1]),<- of_decide_eq_true e];exact hr
theorem Ch.has (h:Ch n.toNat p m l0 l σ) (hT:tok n l = true) (hl0:∀ r,r ∈ l0 -> r.length = n.toNat) (hn:f7 l p m = none):(∀ x y,LE n.toNat p m l0 x y -> σ x = σ y) /\ ∀ r,LR n.toNat p m l0 r -> r.map σ ∈ l:=by
 have hm:=Ch.mdl (p:=p) (m:=m) hT hn σ;have hl:∀ r,r ∈ l0 -> r.length = n.toNat /\ r.map σ ∈ l:=fun r hr=>⟨hl0 r hr,h.img r hr⟩;exact ⟨fun x y e=>e _ _ hm hl,fun r e=>(e _ _ hm hl).2⟩
def af5:∀ {r:Rw},(∀ z,z ∈ r -> f z = z) -> r.map f = r
 | [],_=>rfl
 | z :: r,h=>by rw [bnx,h z bqm,af5 fun y hy=>h y (by simp [hy])]
theorem Ch.mem (h:Ch n.toNat p m l0 l σ) (hT:tok n l = true) (hl0:∀ r,r ∈ l0 -> r.length = n.toNat) (hn:f7 l p m = none) {r:Rw}:r ∈ l <-> LR n.toNat p m l0 r /\ r.map σ = r:=by
 constructor
 · intro hr
   exact ⟨h.rows r hr,af5 (h.fix r hr)⟩
 rintro ⟨h1,h2⟩;rw [<- h2];exact (h.has hT hl0 hn).2 r h1
end
end
end
section
def bhs:List (List Int) -> List Rw
 | []=>[[]]
 | c :: cs=>c.flatMap fun z=>(bhs cs).map fun r=>z :: r
section
variable {N:Nat} {p m:List Fd} {l0 l:List Rw}
def ba8 {a b:Rw} {s:AS} {i:Nat} (h:i < b.length):(ef a b s).getD i default = if d6 s (i:Int) = true then a.getD i default else b.getD i default:=by
 unfold ef;rw [bmb,bn0,bny h];rfl
def b3m (C:Nat -> List Int) (hd:∀ i j z,z ∈ C i -> z ∈ C j -> i = j):Mdl N p m (fun x y=>x = y \/ ∃ i,x ∈ C i /\ y ∈ C i) (fun r=>r.length = N /\ ∀ i,i < N -> r.getD i default ∈ C i) where
 refl _:=.inl rfl
 symm h:=by
  rcases h with h | ⟨i,h,k⟩
  · exact .inl h.symm
  exact .inr ⟨i,k,h⟩
 trans h h2:=by
  rcases h with h | ⟨i,h,k⟩
  · rw [h];exact h2
  rcases h2 with h2 | ⟨j,h2,k2⟩
  · rw [<- h2];exact .inr ⟨i,h,k⟩
  have:=hd i j _ k h2;subst this;exact .inr ⟨i,h,k2⟩
 len h:=h.1
 cong h e h2:=⟨e.trans h.1,fun i hi=>by
  have h3:=h.2 i hi
  rcases h2 i (by rw [h.1];exact hi) with h4 | ⟨j,h4,h5⟩
  · rw [<- h4];exact h3
  have:=hd i j _ h3 h4;subst this
  exact h5⟩
 fd _ a b ha hb _:=fun i hi _=>.inr ⟨i,ha.2 i (by rw [<- ha.1];exact hi),hb.2 i (by rw [<- ha.1];exact hi)⟩
 mv _ a b ha hb _:=⟨(qi _ _ _).trans hb.1,fun i hi=>by
  rw [ba8 (by rw [hb.1];exact hi)];split
  · exact ha.2 i hi
  exact hb.2 i hi⟩
def bhb (N:Nat) (p m:List Fd) (l0:List Rw):Prop:=∀ l,qh l -> (∀ r,r ∈ l -> LR N p m l0 r) -> l.length <= 256
end
section
variable {p m:List Fd} {l0 l:List Rw} {n:Int} {σ:Int -> Int}
def ar6 {s:St} (h:y9 l p m s):bbu l p m s:=by
 obtain ⟨h1,h2,h3⟩:=h;refine ⟨h1,h2,fun e=>?_,fun e=>?_⟩
 · rcases h3 with ⟨_,h,_⟩ | ⟨h,_⟩
   · exact h
   rw [e] at h;cases h
 rcases h3 with ⟨h,_⟩ | ⟨_,h,_⟩
 · rw [e] at h;cases h
 exact h
theorem Ch.code (h0:tok n l0 = true) (hS:bhb n.toNat p m l0) (hp:p.all (inU n) = true) (hT:tok n l = true) (h:Ch n.toNat p m l0 l σ) {s:St} (hs:y9 l p m s):(dx n l p m s).2.2 = 0:=by
 rcases al3 hT hp hs with e | ⟨l',e,_⟩
 · obtain ⟨mu,i,a,b⟩:=s
   obtain ⟨ha,hb,hs | hs⟩:=hs
   · obtain ⟨h1,h2,h3⟩:=hs
     cases h1;have h4:dx n l p m (false,i,a,b) = fdE n l a b (p.getD i default):=rfl;have hg:=(atg hT (bnh.1 hp _ (dl h2)) ha hb h3).1;have hg:fdE n l a b (p.getD i default) = (n,fdL l a b (p.getD i default),0):=hg;rw [h4,hg] at e ⊢
   obtain ⟨h1,h2,h3⟩:=hs;cases h1;have h4:dx n l p m (true,i,a,b) = mvE n l a b (m.getD i default):=rfl;have h5:fk l (m.getD i default) a b = true:=h3;unfold fk at h5;rw [bml] at h5;have h6:mvE n l a b (m.getD i default) = w4 n l (ef (l.getD a default) (l.getD b default) ((m.getD i default).lhs ||| (m.getD i default).rhs)):=if_pos h5.1;have hl0:∀ r,r ∈ l0 -> r.length = n.toNat:=fun r hr=>(yx h0 r hr).1
   have h7:=hS (av (l ++ [ef (l.getD a default) (l.getD b default) ((m.getD i default).lhs ||| (m.getD i default).rhs)])) (iw _) fun r hr=>by
    rcases bmu.1 (gv.1 hr) with h8 | h8
    · exact h.rows r h8
    rw [bmx.1 h8];exact (a8d hl0).mv (dl h2) (h.rows _ (dl ha)) (h.rows _ (dl hb)) (ath hl0 h5.1)
   rw [h4,h6];unfold w4;rw [if_neg bqi]
 rw [e]
def TrZ (n:Int) (p m:List Fd) (lend:List Rw):List Rw -> List St -> Prop
 | l,[]=>l = lend
 | l,s :: r=>tok n l = true /\ y9 l p m s /\ ∃ l',dx n l p m s = (n,l',0) /\ ¬ l' = l /\ TrZ n p m lend l' r
end
def stC (n:Int) (ps:List AS) (c:Nat):List Int:=if c < n.toNat then (List.range ps.length).map fun i=>stV n i (ps.getD i default) c else []
section
variable {n:Int} {ps:List AS} {p m:List Fd}
def b5y (h0:0 <= n) {i c:Nat} {q:AS} (hc:c < n.toNat):stV n i q c % n = (c:Int):=by
 unfold stV;split
 · exact Int.emod_eq_of_lt bqi bqi
 have e:n + (i:Int) * n + (c:Int) = (c:Int) + n * (1 + (i:Int)):=by rw [Int.mul_add,Int.mul_one,Int.mul_comm (i:Int) n];omega
 rw [e,Int.add_mul_emod_self_left];exact Int.emod_eq_of_lt bqi bqi
def aez (h0:0 <= n) {c:Nat} {z:Int} (h:z ∈ stC n ps c):c < n.toNat /\ z % n = (c:Int):=by
 unfold stC at h;split at h
 · rename_i hc
   obtain ⟨i,_,rfl⟩:=bn2.1 h;exact ⟨hc,b5y h0 hc⟩
 simp at h
def bag (h0:0 <= n):∀ i j z,z ∈ stC n ps i -> z ∈ stC n ps j -> i = j:=fun i j z h k=>by
 have h1:=(aez h0 h).2;have h2:=(aez h0 k).2;omega
def acs {r:Rw} (hr:r ∈ bo n ps):r.length = n.toNat /\ ∀ i,i < n.toNat -> r.getD i default ∈ stC n ps i:=by
 unfold bo at hr;obtain ⟨k,hk,rfl⟩:=bn2.1 hr;refine ⟨ag4 _ _ _,fun i hi=>?_⟩;rw [alj hi];unfold stC;rw [if_pos hi];exact bn2.2 ⟨k,hk,rfl⟩
end
end
section
section
variable {n:Int} {ps:List AS} {p m:List Fd} {l l0:List Rw} {σ:Int -> Int}
def bcf {N:Nat} {l l':List Rw} (h:∀ r,r ∈ l <-> r ∈ l') {r:Rw}:LR N p m l r <-> LR N p m l' r :=
 ⟨fun k E R hm hl=>k E R hm fun r hr=>hl r ((h r).1 hr),fun k E R hm hl=>k E R hm fun r hr=>hl r ((h r).2 hr)⟩
def av9 (h0:0 <= n) {c:Nat} {z:Int} (h:z ∈ stC n ps c):z = (c:Int) \/ n <= z:=by
 unfold stC at h;split at h
 · obtain ⟨i,_,rfl⟩:=bn2.1 h
   unfold stV;split
   · exact .inl rfl
   right;have:=Int.mul_nonneg (show (0:Int) <= (i:Int) by omega) h0;omega
 simp at h
theorem Ch.first (h0:0 <= n) (h:Ch n.toNat p m (av (bo n ps)) l σ):(dj n).map σ = dj n:=by
 refine af5 fun z hz=>?_;unfold dj at hz;obtain ⟨c,hc,rfl⟩:=bn2.1 hz;have hc:=bmq.1 hc;have h1:=h.sym (c:Int) _ _ (b3m (stC n ps) (bag h0)) fun r hr=>acs (gv.1 hr)
 rcases h1 with h1 | ⟨i,h1,h2⟩
 · exact h1.symm
 have h3:=(aez h0 h1).2;have h4:=Int.emod_eq_of_lt (a:=(c:Int)) (b:=n) bqi bqi;have h5:i = c:=by omega
 subst h5;have h6:=h.le (i:Int)
 rcases av9 h0 h2 with h7 | h7
 · exact h7
 omega
def a7o {r:Rw}:(l.any fun x=>decide (x = r)) = decide (r ∈ l):=by
 rw [bo8,bne,decide_eq_true_iff];constructor
 · rintro ⟨x,hx,e⟩
   rw [<- of_decide_eq_true e];exact hx
 intro h;exact ⟨r,h,decide_eq_true rfl⟩
def swI (n z:Int):Int:=if n <= z /\ z < 2 * n then z + n else if 2 * n <= z /\ z < 3 * n then z - n else z
abbrev blp (n:Int) (x:Fd):Fd:=⟨x.lhs,a7 n &&& ~~~(x.lhs ||| x.rhs)⟩
end
end
section
section
variable {n:Int} {p m:List Fd} {l0 l:List Rw} {σ:Int -> Int}
def b0d (hT:tok n l = true) (hp:p.all (inU n) = true) (hm:m = []) {s:St} (hs:y9 l p m s):(dx n l p m s).2.2 = 0:=by
 obtain ⟨mu,i,a,b⟩:=s;obtain ⟨ha,hb,hs | hs⟩:=hs
 · obtain ⟨h1,h2,h3⟩:=hs
   cases h1;have h4:dx n l p m (false,i,a,b) = fdE n l a b (p.getD i default):=rfl;have hg:fdE n l a b (p.getD i default) = (n,fdL l a b (p.getD i default),0):=(atg hT (bnh.1 hp _ (dl h2)) ha hb h3).1;rw [h4,hg]
 obtain ⟨_,h2,_⟩:=hs;subst hm;exact absurd h2 (bmf _)
def aya (hl0:∀ r,r ∈ l0 -> r.length = n.toNat) (hp:p.all (inU n) = true) (Z:List Int):∀ (F:Nat) (l:List Rw) (acc:List St) (σ:Int -> Int),tok n l = true -> Ch n.toNat p m l0 l σ -> Cov Z l -> muC Z l < F ->
 (iu F n l p m acc = ([],(0,[]),3) /\ ¬ m = []) \/ ∃ sts lend σ',iu F n l p m acc = (acc ++ sts,(n,lend),0) /\ Ch n.toNat p m l0 lend σ' /\ tok n lend = true /\ f7 lend p m = none /\ TrZ n p m lend l sts:=by
 intro F
 induction F with
 | zero=>intro _ _ _ _ _ _ h;exact absurd h (bmf _)
 | succ F ih =>
  intro l acc σ hT hC hZ hF
  cases hn:f7 l p m with
  | none=>exact .inr ⟨[],l,σ,by rw [acw bqi hn,bn9],hC,hT,hn,rfl⟩
  | some s =>
   have hs:=a9i hn
   rcases al3 hT hp hs with e | ⟨l',e,hT',h3⟩
   · left
     refine ⟨ae7 bqi hn e bqo,fun hm=>?_⟩;have:=b0d hT hp hm hs;rw [e] at this;exact absurd this bqo
   obtain ⟨h4,h5⟩:=h3 Z hZ;obtain ⟨_,σ',hC'⟩:=Ch.app hl0 hT hp hC (ar6 hs) (by rw [e]);rw [e] at hC'
   rcases ih l' (acc ++ [s]) σ' hT' hC' h4 bqi with ⟨q,q0⟩ | ⟨sts,lend,σ2,q1,q2,q3,q4,q5⟩
   · left
     exact ⟨by rw [a2b bqi hn e,Nat.add_sub_cancel,q],q0⟩
   right;refine ⟨s :: sts,lend,σ2, ?_,q2,q3,q4,hT,hs,l',e,fun e=>?_,q5⟩
   · rw [a2b bqi hn e,Nat.add_sub_cancel,q1,bnm]
     rfl
   subst e;omega
def ayc (hT:tok n l = true) (hb:bt n p m = 0):(jf FU n l p m = ([],(0,[]),3) /\ ¬ m = []) \/ ∃ sts lend σ,jf FU n l p m = (sts,(n,lend),0) /\ Ch n.toNat p m l lend σ /\ tok n lend = true /\ f7 lend p m = none /\ TrZ n p m lend l sts:=by
 have hck:ckE n l p m = 0:=(if_pos hT).trans hb;rw [w8 hck]
 rcases aya (fun r hr=>(yx hT r hr).1) (kz hb).2.2.2.1 l.flatten FU l [] id hT Ch.start (ao7 l) (aol hT) with h | ⟨sts,lend,σ',q1,q⟩
 · exact .inl h
 exact .inr ⟨sts,lend,σ',by rw [q1,bq4],q⟩
def trL (n:Int) (p m:List Fd):List Rw -> List St -> List (List Rw)
 | l,[]=>[l]
 | l,s :: r=>l :: trL n p m (dx n l p m s).2.1 r
def a3i:∀ {sts:List St} {l:List Rw},(trL n p m l sts).length = sts.length + 1
 | [],_=>rfl
 | s :: r,l=>by unfold trL;rw [bn7,a3i,bn7]
def akd:∀ {sts:List St} {l lend:List Rw},TrZ n p m lend l sts -> lend ∈ trL n p m l sts
 | [],l,lend,h=>by
  have h:l = lend:=h;subst h;simp [trL]
 | s :: r,l,lend,h=>by
  obtain ⟨_,_,l',e,_,h⟩:=h;unfold trL;rw [e];exact bni _ (akd h)
def awo (hl0:∀ r,r ∈ l0 -> r.length = n.toNat) (hp:p.all (inU n) = true):∀ {sts:List St} {l lend:List Rw} {σ:Int -> Int},TrZ n p m lend l sts -> tok n lend = true -> Ch n.toNat p m l0 l σ -> ∀ t,t ∈ trL n p m l sts -> ∃ σ,Ch n.toNat p m l0 t σ
 | [],l,lend,σ,h,_,hC,t,ht=>by
  rw [bmx.1 (show t ∈ [l] from ht)];exact ⟨σ,hC⟩
 | s :: r,l,lend,σ,h,hTe,hC,t,ht=>by
  obtain ⟨hT,hs,l',e,_,h⟩:=h;unfold trL at ht;rw [e] at ht
  rcases bmp.1 ht with rfl | ht
  · exact ⟨σ,hC⟩
  obtain ⟨_,σ',hC'⟩:=Ch.app hl0 hT hp hC (ar6 hs) (by rw [e]);rw [e] at hC';exact awo hl0 hp h hTe hC' t ht
end
section
variable {n:Int} {ps:List AS} {p m:List Fd}
def aea (h0:0 <= n) (h16:n <= 16) (hk:ps.length <= 64):tok n (av (bo n ps)) = true:=by
 refine a6f h0 h16 ?_ fun r hr=>?_
 · have:=a0y (bo n ps)
   rw [qx] at this;omega
 obtain ⟨h1,h2⟩:=acs hr;refine ⟨h1,fun z hz=>?_⟩;obtain ⟨i,hi,rfl⟩:=xr hz
 rcases av9 h0 (h2 i bqi) with h3 | h3 <;> omega
def ah9 (hk:ps.length <= 64) (hb:bt n p m = 0) :
 (jf FU n (av (bo n ps)) p m = ([],(0,[]),3) /\ ¬ m = []) \/ ∃ sts lend,jf FU n (av (bo n ps)) p m = (sts,(n,lend),0) /\ (dj n ∈ lend <-> LR n.toNat p m (bo n ps) (dj n)) /\
  TrZ n p m lend (av (bo n ps)) sts /\ tok n lend = true /\ ((∃ t,t ∈ trL n p m (av (bo n ps)) sts /\ dj n ∈ t) <-> dj n ∈ lend):=by
 obtain ⟨h0,h16,_,hp,_⟩:=kz hb;have hT:=aea h0 h16 hk;have hl0:∀ r,r ∈ av (bo n ps) -> r.length = n.toNat:=fun r hr=>(yx hT r hr).1
 rcases ayc hT hb with h | ⟨sts,lend,σ,h1,h2,h3,h4,h5⟩
 · exact .inl h
 right
 have hf:dj n ∈ lend <-> LR n.toNat p m (av (bo n ps)) (dj n):=by
  rw [h2.mem h3 hl0 h4];exact ⟨fun h=>h.1,fun h=>⟨h,h2.first h0⟩⟩
 refine ⟨sts,lend,h1,by rw [hf,bcf (l':=bo n ps) fun r=>gv],h5,h3, ?_⟩;constructor
 · rintro ⟨t,ht,hft⟩
   obtain ⟨σ',hC⟩:=awo hl0 hp h5 h3 Ch.start t ht;exact hf.2 (hC.rows _ hft)
 intro h;exact ⟨lend,akd h5,h⟩
end
end
section
section
variable {n:Int} {l:List Fd}
def aff (h:b6 n l = 0):∀ f ∈ l,sub f.lhs (a7 n) /\ sub f.rhs (a7 n):=fun f hf=>by
 obtain ⟨h0,h1,_,h3⟩:=ew h;exact (om h0 h1).1 (bnh.1 h3 f hf)
def aph (h:b6 n l = 0):tq l (a7 n):=fun f hf _=>(aff h f hf).2
def akv (h:b6 n l = 0) {x:AS} (hx:sub x (a7 n)):sub (clo l x) (a7 n):=a1n (aph h) hx
end
def lv {α β:Type} [Inhabited α] {f:α -> β} {l:List α} {i:Nat} (h:i < l.length):(l.take (i + 1)).map f = (l.take i).map f ++ [f (l.getD i default)]:=by
 rw [am h,boh];rfl
structure Dps where
 n:BitVec 8
 l:List Dp
deriving Inhabited
def Dps.num (d:Dps):Int:=((d.n.toNat % 7:Nat):Int)
def Dps.fds (d:Dps):List Fd:=d.l.map (Dp.fd d.num)
def Dps.c (d:Dps):Nat -> PV
 | 0=>.raw (.int .u8 (d.n.toNat:Int))
 | 1=>dpl d.l
 | _=>.any
abbrev Dps.pc (d:Dps):PC:=.agg [d.c 0,d.c 1]
end
section
def noA (s:AS) (a:Nat):AS:=s &&& ~~~((1:AS) <<< a)
def a0u (s:AS) (a:Nat) {b:Int} (h:b.toNat = a):ay .andNot .u32 (asI s) (IntKind.wrap .u32 (1 * 2 ^ (min b.toNat 32))) = asI (noA s a):=by
 rw [h];exact w3 s a
section
variable {s:AS}
def bgm {a:Nat} (h:s.getLsbD a = false):noA s a = s:=by
 unfold noA;apply bnu;intro i hi;rw [bmr,bob,decide_eq_true hi,boi];by_cases hia:i = a
 · subst hia;rw [h];rfl
 have h1:((1:AS) <<< a).getLsbD i = decide (i = a):=re a i hi;rw [h1,decide_eq_false hia];simp
def aob (n:Int) (l:List Fd) (s:AS) (a:Nat):AS:=if i6 n l (noA s a) = true then noA s a else s
def jc (n:Int) (l:List Fd) (s:AS) (k:Nat):AS:=(List.range k).foldl (fun s j=>aob n l s (n.toNat - 1 - j)) s
def a4c (n:Int) (l:List Fd) (s:AS) (k:Nat):jc n l s (k + 1) = aob n l (jc n l s k) (n.toNat - 1 - k):=by
 unfold jc;rw [bo0,bnn];rfl
variable {l:List Fd} {n:Int}
def a36 {k:Nat} (h:i6 n l (noA (jc n l s k) (n.toNat - 1 - k)) = true):jc n l s (k + 1) = noA (jc n l s k) (n.toNat - 1 - k):=by
 rw [a4c];exact if_pos h
def a38 {k:Nat} (h:i6 n l (noA (jc n l s k) (n.toNat - 1 - k)) = false):jc n l s (k + 1) = jc n l s k:=by
 rw [a4c];exact if_neg (by rw [h];decide)
def af2 {k:Nat} (h:(jc n l s k).getLsbD (n.toNat - 1 - k) = false):jc n l s (k + 1) = jc n l s k:=by
 rw [a4c];unfold aob;rw [bgm h];split <;> rfl
def rkE (n:Int) (l:List Fd) (s:AS):Int:=if b6 n l = 0 then (if i6 n l s = true then 0 else 1) else b6 n l
def rkS (n:Int) (l:List Fd) (s:AS):AS:=if rkE n l s = 0 then jc n l s n.toNat else 0
def be7 (h:¬ b6 n l = 0):rkS n l s = 0 /\ rkE n l s = b6 n l:=by
 have e:rkE n l s = b6 n l:=if_neg h;exact ⟨if_neg (by rw [e];exact h),e⟩
def bc3 (h:b6 n l = 0) (h2:i6 n l s = false):rkS n l s = 0 /\ rkE n l s = 1:=by
 have e:rkE n l s = 1:=by unfold rkE;rw [if_pos h,if_neg (by rw [h2];decide)]
 exact ⟨if_neg (by rw [e];decide),e⟩
def b0m (h:b6 n l = 0) (h2:i6 n l s = true):rkS n l s = jc n l s n.toNat /\ rkE n l s = 0:=by
 have e:rkE n l s = 0:=by unfold rkE;rw [if_pos h,if_pos h2]
 exact ⟨if_pos e,e⟩
def bhh (n:Int) (l:List Fd) (s:AS):Bool:=i6 n l s && (List.range n.toNat).all fun a=>!(s.getLsbD a && i6 n l (noA s a))
def bgx (n:Int) (l:List Fd) (i:Nat):List AS:=((List.range i).map (BitVec.ofNat 32)).filter (bhh n l)
def b4p (n:Int) (l:List Fd):List AS:=if b6 n l = 0 then ord (bgx n l (2 ^ n.toNat)) else []
def bfz (h0:0 <= n) (h1:n <= 16):asI (a7 n) + 1 = (2 ^ n.toNat:Nat) /\ 2 ^ n.toNat <= 65536:=by
 have h2:2 ^ n.toNat <= 2 ^ 16:=bow bqi bqi;have h3:0 < 2 ^ n.toNat:=bq6 _;unfold a7 asI;rw [aa0 (Nat.min_le_right _ _),bo5 bqi];omega
end
end
section
open Go.Proofs
def b8w (n:Int) (l:List Fd) (s:AS):a6 br6 73 [pI n,pP (fdl l),pA s] (a8 [pA (rkS n l s),pI (rkE n l s)]):=by
 refine hpx (nt:=38) Tryz.func73 ?_;refine c5 ?_;refine qcx vk (zz n l) ?_;refine w_7 ?_;refine hcn (fun h0=>?_) (fun h0=>?_)
 · refine w_6 ?_;refine hrr ?_;have he:=be7 (s:=s) h0;exact f9 rfl rfl (⟨cci (congrArg asI he.1.symm),cci he.2.symm,trivial⟩)
 refine w_7 ?_;refine qcx adq (aj9 n l s) ?_;refine w_2 ?_;refine hcv (fun h1=>?_) (fun h1=>?_)
 · refine w_5 ?_;refine hrr ?_;have he:=bc3 h0 bqj;exact f9 rfl rfl (⟨cci (congrArg asI he.1.symm),cci he.2.symm,trivial⟩)
 refine w_3 ?_;have hv:=ew h0;refine w_6 ?_;refine b5 (ka 0 (ka 1 kn)) km (fun k=>⟨[(2,some (vA (jc n l s k))),(9,some (vI (n - 1 - (k:Int))))],[]⟩) n.toNat ⟨⟨zy,⟨_,rfl,(coi bqi)⟩,trivial⟩,trivial⟩ ?_;rintro k hk;refine w_6 ?_;refine hcd (fun h2=>?_) (fun h2=>?_)
 ·
  refine ow ?_;refine rc rfl rfl rfl rfl rfl rfl adq (aj9 n l (noA (jc n l s k) (n.toNat - 1 - k))) (⟨CoC.refl _,CoC.refl _,cci (a0u _ _ bqi),trivial⟩) rfl rfl ?_;refine bz ?_;refine hcb (fun h3=>?_) (fun h3=>?_)
  ·
   refine w_9 ?_
   first | (refine ⟨k + 1, ?_, ?_, ?_⟩
            · show k + 1 <= _;omega
            · first | omega | (dsimp only;omega)
            exact ⟨⟨⟨_,rfl,(bj ((a0u _ (n.toNat - 1 - k) bqi).trans (congrArg asI (a36 bqj).symm)))⟩,⟨_,rfl,(coi bqi)⟩,tt⟩,trivial⟩)
         | (refine ⟨k + 1, ?_, ?_, ?_⟩
            · show k + 1 <= _;omega
            · first | omega | (dsimp only;omega)
            exact ⟨⟨⟨_,rfl,(bj (by rw [a38 bqj]))⟩,⟨_,rfl,(coi bqi)⟩,tt⟩,trivial⟩)
  refine w_6 ?_
  first | (refine ⟨k + 1, ?_, ?_, ?_⟩
           · show k + 1 <= _;omega
           · first | omega | (dsimp only;omega)
           exact ⟨⟨⟨_,rfl,(bj ((a0u _ (n.toNat - 1 - k) bqi).trans (congrArg asI (a36 bqj).symm)))⟩,⟨_,rfl,(coi bqi)⟩,tt⟩,trivial⟩)
        | (refine ⟨k + 1, ?_, ?_, ?_⟩
           · show k + 1 <= _;omega
           · first | omega | (dsimp only;omega)
           exact ⟨⟨⟨_,rfl,(bj (by rw [a38 bqj]))⟩,⟨_,rfl,(coi bqi)⟩,tt⟩,trivial⟩)
 refine w_7 ?_;refine hrr ?_;have he:=b0m h0 bqj;obtain rfl:k = n.toNat:=by omega
 exact f9 rfl rfl (⟨cci (congrArg asI he.1.symm),cci he.2.symm,trivial⟩)
def b1f (n:Int) (l:List Fd) (s:AS):a6 br6 84 [pI n,pP (fdl l),pA s] (a8 [pA (rkS n l s),pI (rkE n l s)]):=by
 refine hpx (nt:=44) Tryz.func84 ?_;refine c5 ?_;refine qcx a3g (yz n l) ?_;refine w_7 ?_;refine hcn (fun h0=>?_) (fun h0=>?_)
 · refine w_6 ?_;refine hrr ?_;have he:=be7 (s:=s) h0;exact f9 rfl rfl (⟨cci (congrArg asI he.1.symm),cci he.2.symm,trivial⟩)
 refine w_7 ?_;refine qcx afh (ajj n l s) ?_;refine w_2 ?_;refine hcv (fun h1=>?_) (fun h1=>?_)
 · refine w_5 ?_;refine hrr ?_;have he:=bc3 h0 bqj;exact f9 rfl rfl (⟨cci (congrArg asI he.1.symm),cci he.2.symm,trivial⟩)
 refine w_3 ?_;have hv:=ew h0;refine w_6 ?_;refine b5 (ka 0 (ka 1 kn)) km (fun k=>⟨[(2,some (vA (jc n l s k))),(9,some (vI (n - 1 - (k:Int))))],[]⟩) n.toNat ⟨⟨zy,⟨_,rfl,(coi bqi)⟩,trivial⟩,trivial⟩ ?_;rintro k hk;refine w_6 ?_;refine hcd (fun h2=>?_) (fun h2=>?_)
 ·
  refine w_7 ?_;refine qcx ov (a1z (jc n l s k) (n - 1 - (k:Int))) ?_;refine qy ?_;refine ah rfl rfl (fun r3=>?_) (fun r3=>?_)
  ·
   have h3:=r3;(iterate 6 refine qy ?_ (hg:=(gtt r3)));refine rc rfl rfl rfl rfl rfl rfl afh (ajj n l (noA (jc n l s k) (n.toNat - 1 - k))) (⟨CoC.refl _,CoC.refl _,cci (a0u _ _ bqi),trivial⟩) rfl (gtt r3) ?_
   refine w_2 ?_;refine ak _ rfl (fun r4=>?_) (fun r4=>?_)
   ·
    have h4:=br r3 r4;refine dy ?_
    first | (refine ⟨k + 1, ?_, ?_, ?_⟩
             · show k + 1 <= _;omega
             · first | omega | (dsimp only;omega)
             exact ⟨⟨⟨_,rfl,(bj ((a0u _ (n.toNat - 1 - k) bqi).trans (congrArg asI (a36 bqj).symm)))⟩,⟨_,rfl,(coi bqi)⟩,tt⟩,trivial⟩)
          | (refine ⟨k + 1, ?_, ?_, ?_⟩
             · show k + 1 <= _;omega
             · first | omega | (dsimp only;omega)
             exact ⟨⟨⟨_,rfl,(bj (by rw [a38 bqj]))⟩,⟨_,rfl,(coi bqi)⟩,tt⟩,trivial⟩)
          | (refine ⟨k + 1, ?_, ?_, ?_⟩
             · show k + 1 <= _;omega
             · first | omega | (dsimp only;omega)
             exact ⟨⟨⟨_,rfl,(bj (by rw [af2 (by have hh:=gk (s:=jc n l s k) (i:=n.toNat - 1 - k) bqi;rw [<- hh];rw [show ((n.toNat - 1 - k:Nat):Int) = n - 1 - (k:Int) by omega];assumption)]))⟩,⟨_,rfl,(coi bqi)⟩,tt⟩,trivial⟩)
   have h4:=br r3 r4;refine w_6 ?_
   first | (refine ⟨k + 1, ?_, ?_, ?_⟩
            · show k + 1 <= _;omega
            · first | omega | (dsimp only;omega)
            exact ⟨⟨⟨_,rfl,(bj ((a0u _ (n.toNat - 1 - k) bqi).trans (congrArg asI (a36 bqj).symm)))⟩,⟨_,rfl,(coi bqi)⟩,tt⟩,trivial⟩)
         | (refine ⟨k + 1, ?_, ?_, ?_⟩
            · show k + 1 <= _;omega
            · first | omega | (dsimp only;omega)
            exact ⟨⟨⟨_,rfl,(bj (by rw [a38 bqj]))⟩,⟨_,rfl,(coi bqi)⟩,tt⟩,trivial⟩)
         | (refine ⟨k + 1, ?_, ?_, ?_⟩
            · show k + 1 <= _;omega
            · first | omega | (dsimp only;omega)
            exact ⟨⟨⟨_,rfl,(bj (by rw [af2 (by have hh:=gk (s:=jc n l s k) (i:=n.toNat - 1 - k) bqi;rw [<- hh];rw [show ((n.toNat - 1 - k:Nat):Int) = n - 1 - (k:Int) by omega];assumption)]))⟩,⟨_,rfl,(coi bqi)⟩,tt⟩,trivial⟩)
  have h3:=r3;(iterate 7 refine k9 (gft r3) ?_);refine rq rfl rfl rfl rfl rfl ?_ (hp:=r3);refine w_8 ?_
  first | (refine ⟨k + 1, ?_, ?_, ?_⟩
           · show k + 1 <= _;omega
           · first | omega | (dsimp only;omega)
           exact ⟨⟨⟨_,rfl,(bj ((a0u _ (n.toNat - 1 - k) bqi).trans (congrArg asI (a36 bqj).symm)))⟩,⟨_,rfl,(coi bqi)⟩,tt⟩,trivial⟩)
        | (refine ⟨k + 1, ?_, ?_, ?_⟩
           · show k + 1 <= _;omega
           · first | omega | (dsimp only;omega)
           exact ⟨⟨⟨_,rfl,(bj (by rw [a38 bqj]))⟩,⟨_,rfl,(coi bqi)⟩,tt⟩,trivial⟩)
        | (refine ⟨k + 1, ?_, ?_, ?_⟩
           · show k + 1 <= _;omega
           · first | omega | (dsimp only;omega)
           exact ⟨⟨⟨_,rfl,(bj (by rw [af2 (by have hh:=gk (s:=jc n l s k) (i:=n.toNat - 1 - k) bqi;rw [<- hh];rw [show ((n.toNat - 1 - k:Nat):Int) = n - 1 - (k:Int) by omega];assumption)]))⟩,⟨_,rfl,(coi bqi)⟩,tt⟩,trivial⟩)
 refine w_7 ?_;refine hrr ?_;have he:=b0m h0 bqj;obtain rfl:k = n.toNat:=by omega
 exact f9 rfl rfl (⟨cci (congrArg asI he.1.symm),cci he.2.symm,trivial⟩)
end
section
def bC:Bool -> Nat -> PV:=fun b _=>.raw (.bool b)
def b29 (n:Int) (l:List Fd) (k:Nat):Bool:=decide (clo l (BitVec.ofNat 32 k) = a7 n)
def bk1 (n:Int) (l:List Fd) (i:Nat):List Bool:=(List.range (2 ^ n.toNat)).map fun k=>decide (k < i) && b29 n l k
def bm1 (n:Int) (l:List Fd):List Bool:=bk1 n l (2 ^ n.toNat)
end
section
section
variable {n:Int} {l:List Fd}
def okA (n:Int) (l:List Fd) (i a:Nat):Bool:=b29 n l i && (List.range a).all fun b=>!(i.testBit b && b29 n l (i ^^^ 2 ^ b))
section
variable {i a:Nat} (hv:b6 n l = 0) (hi:i < 2 ^ n.toNat) (ha:(a:Int) < n) (hx:i ^^^ 2 ^ a < 2 ^ n.toNat)
include hv hi ha hx
end
end
end
section
def ww (s:AS):Nat -> AS -> List AS
 | 0,_=>[]
 | n + 1,x=>if x = 0 then [] else x :: ww s n ((x - 1) &&& s)
def fq (s:AS):List AS:=0 :: ww s (s.toNat + 1) s
def sub_zero (s:AS):sub 0 s:=ar.2 fun i hi h=>by simp at h
section
variable {s:AS}
def aib:∀ (n:Nat) (x:AS),sub x s -> x.toNat < n -> ∀ z,z ∈ ww s n x <-> sub z s /\ z ≠ 0 /\ z.toNat <= x.toNat
 | 0,x,_,h,z=>absurd h (bmf _)
 | n + 1,x,hx,h,z=>by
  unfold ww;by_cases h0:x = 0
  · rw [if_pos h0]
    subst h0;constructor
    · intro h;cases h
    rintro ⟨_,h1,h2⟩;exact absurd (bng (Nat.le_antisymm h2 (bmh _))) h1
  rw [if_neg h0,bmp,aib n _ a5a (by have:=qv (s:=s) h0;omega)];constructor
  · rintro (rfl | ⟨h1,h2,h3⟩)
    · exact ⟨hx,h0,bmd _⟩
    have:=qv (s:=s) h0;exact ⟨h1,h2,by omega⟩
  rintro ⟨h1,h2,h3⟩;by_cases he:z = x
  · exact .inl he
  have hne:z.toNat ≠ x.toNat:=fun e=>he (bng e);exact .inr ⟨h1,h2,abj hx h1 bqi⟩
def x9 {z:AS}:z ∈ fq s <-> sub z s:=by
 unfold fq;rw [bmp,aib _ _ (sub_self s) (Nat.lt_succ_self _)];constructor
 · rintro (rfl | h)
   · exact sub_zero s
   exact h.1
 intro h;by_cases h0:z = 0
 · exact .inl h0
 exact .inr ⟨h,h0,a0s h⟩
def TsI (s:AS) (x:Nat × List AS × AS):Prop:=x.2.1 ++ ww s x.1 x.2.2 = fq s /\ x.2.2.toNat < x.1 /\ x.2.1.length + x.1 = s.toNat + 2
def b5t (s:AS):TsI s (s.toNat + 1,[0],s):=⟨rfl,Nat.lt_succ_self _,by dsimp only;rw [bo1];omega⟩
def b5g {x:Nat × List AS × AS} (h:TsI s x) (h0:x.2.2 ≠ 0):TsI s (x.1 - 1,x.2.1 ++ [x.2.2],(x.2.2 - 1) &&& s):=by
 obtain ⟨h1,h2,h3⟩:=h;obtain ⟨n,hn⟩:∃ n,x.1 = n + 1:=⟨x.1 - 1,by omega⟩;have hl:=qv (s:=s) h0;refine ⟨?_,by dsimp only;omega,by dsimp only;rw [bmg,bo1];omega⟩;rw [<- h1,hn];show (x.2.1 ++ [x.2.2]) ++ ww s n _ = _;rw [bnm]
 conv=>rhs;unfold ww
 rw [if_neg h0];rfl
def bdh {x:Nat × List AS × AS} (h:TsI s x) (h0:x.2.2 = 0):x.2.1 = fq s:=by
 obtain ⟨h1,h2,h3⟩:=h;obtain ⟨n,hn⟩:∃ n,x.1 = n + 1:=⟨x.1 - 1,by omega⟩;rw [<- h1,hn];unfold ww;rw [if_pos h0,bn9]
def aho (s:AS):(fq s).length <= 4294967297:=by
 have:∀ n x,(ww s n x).length <= n:=by
  intro n
  induction n with
  | zero=>intro x;exact bmd _
  | succ n ih =>
   intro x;unfold ww;split
   · simp
   rw [bn7];have:=ih ((x - 1) &&& s);omega
 have h1:=this (s.toNat + 1) s;have:=s.isLt;unfold fq;rw [bn7];omega
variable {r:AS}
def be4 (h:r ≠ 0):r &&& (-r) = (1:AS) <<< j4 r:=by
 obtain ⟨h1,h2,h3,h4⟩:=vn h
 have e:-r = ~~~(r - 1):=by
  apply bng;have h0:r.toNat ≠ 0:=fun e=>h (bng e);have:=r.isLt;rw [BitVec.toNat_neg,BitVec.toNat_not,a4j h];omega
 rw [e];apply bnu;intro i hi;have h5:=congrArg (fun z:AS=>z.getLsbD i) h4;simp only [bmr,bob,decide_eq_true hi,boi] at h5;have h6:((1:AS) <<< j4 r).getLsbD i = decide (i = j4 r):=re _ i hi;rw [bmr,bob,decide_eq_true hi,boi,h6];rw [h6] at h5;by_cases hl:i = j4 r
 · subst hl
   rw [h2] at h5 ⊢;simpa using h5
 rw [decide_eq_false hl] at h5 ⊢;cases hr:r.getLsbD i <;> rw [hr] at h5 <;> simpa using h5
def bis (r:AS) (h:r ≠ 0) {a:Int} (ha:a = IntKind.wrap .u32 (0 - asI r)):ay .and .u32 (asI r) a = asI ((1:AS) <<< j4 r):=by
 have e:a = asI (-r):=by
  rw [ha];have h0:r.toNat ≠ 0:=fun e=>h (bng e);have:=r.isLt;unfold asI;rw [BitVec.toNat_neg];simp only [IntKind.wrap,IntKind.signed,IntKind.bits];simp;omega
 rw [e,fj,be4 h]
def lj (l:List Fd) (p s:AS):Bool:=decide (sub p (clo l s))
variable {l:List Fd} {p:AS}
def sa:decide (ay .and .u32 (asI (clo l s)) (asI p) = asI p) = lj l p s:=by
 rw [fj,a6b];unfold lj;refine decide_eq_decide.2 ⟨fun e=>?_,fun e=>?_⟩
 · rw [<- e];exact nv
 refine dt a1i (a0h e (fh p))
def a0d (l:List Fd) (p x:AS):Bool:=(List.range 32).all fun a=>!(x.getLsbD a && lj l p (noA x a))
variable {x:AS}
def bda {a:Nat} (ha:a < 32) (h:x.getLsbD a = true) (h2:lj l p (noA x a) = true):a0d l p x = false:=by
 unfold a0d;rw [List.all_eq_false];exact ⟨a,bmq.2 ha,by rw [h,h2];decide⟩
def bdm (h2:∀ a,a < 32 -> x.getLsbD a = true -> lj l p (noA x a) = false):a0d l p x = true:=by
 unfold a0d;rw [bnh];intro a ha
 cases hx:x.getLsbD a with
 | false=>rfl
 | true=>rw [h2 a (bmq.1 ha) hx];rfl
def af7 (l:List Fd) (p x r:AS):Prop:=sub r x /\ ∀ a,a < 32 -> x.getLsbD a = true -> r.getLsbD a = true \/ lj l p (noA x a) = false
def b1v (l:List Fd) (p x:AS):af7 l p x x:=⟨fh x,fun a _ h=>.inl h⟩
def b9b (h:af7 l p x r) (h0:r ≠ 0):j4 r < 32 /\ x.getLsbD (j4 r) = true:=by
 obtain ⟨h1,h2,_,_⟩:=vn h0;exact ⟨h1,ar.1 h.1 _ h1 h2⟩
def b15 (h:af7 l p x r) (h0:r ≠ 0) (hf:lj l p (noA x (j4 r)) = false):af7 l p x (r &&& (r - 1)):=by
 obtain ⟨h1,h2,h3,h4⟩:=vn h0;rw [h4];refine ⟨d8 nv h.1,fun a ha hx=>?_⟩
 rcases h.2 a ha hx with h5 | h5
 · by_cases hl:a = j4 r
   · subst hl;exact .inr hf
   refine .inl ?_;have h6:((1:AS) <<< j4 r).getLsbD a = decide (a = j4 r):=re _ a ha;rw [bmr,bob,decide_eq_true ha,boi,h5,h6,decide_eq_false hl];rfl
 exact .inr h5
def b70 (h:af7 l p x r) (h0:r = 0):a0d l p x = true:=bdm fun a ha hx=>by
 rcases h.2 a ha hx with h5 | h5
 · subst h0;simp at h5
 exact h5
def bcr (h:r ≠ 0):(r &&& (r - 1)).toNat < r.toNat:=by
 have h1:=a4j h;have h0:r.toNat ≠ 0:=fun e=>h (bng e);rw [bp8,h1];have:(r.toNat &&& (r.toNat - 1)) <= r.toNat - 1:=bp9;omega
def a0a (l:List Fd) (p x:AS):Bool:=lj l p x && a0d l p x
def oj (l:List Fd) (p:AS):AS:=orL ((fq p).filter (a0a l p))
def a3m {k:Nat}:∀ {ps:List AS} {s:AS},(ps.foldl (· ||| ·) s).getLsbD k = (s.getLsbD k || ps.any fun x=>x.getLsbD k)
 | [],s=>by simp
 | x :: ps,s=>by
  rw [bo9,a3m,bo4,List.any_cons,Bool.or_assoc]
def b01 {a b:List AS} (h:∀ z,z ∈ a <-> z ∈ b):orL a = orL b:=by
 apply bnu;intro i hi;unfold orL;rw [a3m,a3m];congr 1;rw [bo8,bne,bne];exact ⟨fun ⟨x,h1,h2⟩=>⟨x,(h x).1 h1,h2⟩,fun ⟨x,h1,h2⟩=>⟨x,(h x).2 h1,h2⟩⟩
def vd (l:List Fd) (p:AS) (i:Nat):AS:=orL (((fq p).take i).filter (a0a l p))
def apq (a:List AS) (x:AS):orL (a ++ [x]) = orL a ||| x:=by unfold orL;rw [bnn];rfl
def abg {i:Nat} (hi:i < (fq p).length) (h:a0a l p ((fq p).getD i default) = true):vd l p (i + 1) = vd l p i ||| (fq p).getD i default:=by
 unfold vd;rw [am hi,bnc];simp only [bnf,h,if_true,bnw];exact apq _ _
def vj {i:Nat} (hi:i < (fq p).length) (h:a0a l p ((fq p).getD i default) = false):vd l p (i + 1) = vd l p i:=by
 unfold vd;rw [am hi,bnc];simp only [bnf,h,bnq,if_false,bnw,bn9]
def auq (l:List Fd) (p:AS):vd l p (fq p).length = oj l p:=by unfold vd oj;rw [bmi]
def adb (h:lj l p x = true) (h2:a0d l p x = true):a0a l p x = true:=by unfold a0a;rw [h,h2];rfl
def a8i (h:lj l p x = false):a0a l p x = false:=by unfold a0a;rw [h];rfl
def a8m (h:a0d l p x = false):a0a l p x = false:=by unfold a0a;rw [h];simp
end
end
section
open Go.Proofs
def axg (s:AS):a6 br6 204 [pA s] (a8 [pP (asl (fq s))]):=by
 refine hpx (nt:=18) Tryz.func204 ?_;refine w_6 ?_;refine m9 0 ?_;refine w_9 ?_;refine ae (ι:=Nat × List AS × AS) (ka 0 kn) km (fun x=>⟨[(3,some (.v (.one (.ref 0 x.2.1.length)))),(4,some (vA x.2.2))],[(0,some (.arr true 1 46 x.2.1.length (lf sC x.2.1)))]⟩) (fun x=>TsI s x) (fun x=>x.1) ((s.toNat + 1,[0],s)) (b5t s) ⟨tt,⟨⟨_,rfl,(a0c (CoP.refl _))⟩,trivial⟩⟩ ?_;rintro x hx;have hlen:=hx.2;have hsl:=s.isLt;refine w_6 ?_;refine hcn (fun h0=>?_) (fun h0=>?_)
 ·
  have hne:x.2.2 ≠ 0:=fun e=>h0 (by rw [e];rfl);refine w_6 ?_;refine m9 1 ?_;refine r9 2 true ?_;refine w_4 ?_;refine rq rfl rfl rfl rfl rfl ?_ (hp:=(a0p hne));refine w_4 ?_;refine ⟨(x.1 - 1,x.2.1 ++ [x.2.2],(x.2.2 - 1) &&& s), ?_, ?_, ?_⟩
  · exact b5g hx hne
  · dsimp only
    omega
  exact ⟨⟨⟨_,rfl,(bg rfl)⟩,⟨_,rfl,(bj (zm hne))⟩,tt⟩,⟨⟨_,rfl,(bh rfl (CoP.refl _))⟩,trivial⟩⟩
 have hz:x.2.2 = 0:=c6.1 h0;refine w_6 ?_;refine al 2 rfl rfl rfl ?_;exact hx8 rfl rfl rfl (⟨CoC.one (CoP.of_eq (by rw [<- bdh hx hz];rfl)),trivial⟩)
def biv (l:List Fd) (p x:AS):a6 br6 238 [pP (fdl l),pA p,pA x] (a8 [pB (a0d l p x)]):=by
 refine hpx (nt:=27) Tryz.func238 ?_;refine cq ?_;refine ae (ι:=AS) (ka 0 (ka 1 (ka 2 kn))) km (fun r=>⟨[(7,some (vA r))],[]⟩) (fun r=>af7 l p x r) (fun r=>r.toNat) (x) (b1v l p x) kk ?_;rintro r hr;refine w_6 ?_;refine hcn (fun h0=>?_) (fun h0=>?_)
 ·
  have hne:r ≠ 0:=fun e=>h0 (by rw [e];rfl);have hlow:=b9b hr hne;refine w_9 ?_;refine rqw rfl rfl rfl rfl rfl ?_;refine w_2 ?_;refine rc rfl rfl rfl rfl rfl rfl uh (xl l (noA x (j4 r))) (⟨CoC.refl _,cci (by rw [bis r hne rfl,i7];rfl),trivial⟩) rfl rfl ?_;refine w_5 ?_;refine hcd (fun h1=>?_) (fun h1=>?_)
  · refine v_4 ?_;exact ⟨ccb (bda hlow.1 hlow.2 (sa.symm.trans (decide_eq_true bqj))).symm,trivial⟩
  refine w_4 ?_;refine rq rfl rfl rfl rfl rfl ?_ (hp:=(a0p hne));refine w_3 ?_;refine ⟨r &&& (r - 1), ?_, ?_, ?_⟩
  · exact b15 hr hne (sa.symm.trans (decide_eq_false bqj))
  · exact bcr hne
  exact ⟨⟨⟨_,rfl,(bj (an7 hne))⟩,tt⟩,trivial⟩
 have hz:r = 0:=c6.1 h0;refine v_5 ?_;exact ⟨ccb (b70 hr hz).symm,trivial⟩
def b5j (l:List Fd) (p:AS):a6 br6 203 [pP (fdl l),pA p] (a8 [pA (oj l p)]):=by
 refine hpx (nt:=33) Tryz.func203 ?_;refine c5 ?_;have htl:=aho p;refine w_2 ?_;refine qcx (wgx Tryz.func204) (axg p) ?_;refine w_4 ?_;refine b5 (ka 0 (ka 1 (ka 9 (ka 10 kn)))) km (fun i=>⟨[(5,some (vA (vd l p i))),(11,some (vI i))],[]⟩) ((fq p).length) ⟨⟨⟨_,rfl,(bj rfl)⟩,tt⟩,trivial⟩ ?_;rintro i hi;refine w_5 ?_;refine hcd (fun h0=>?_) (fun h0=>?_)
 ·
  refine ja ?_;refine qcx uh (xl l ((fq p).getD i default)) ?_;refine w_5 ?_;refine ah rfl rfl (fun r1=>?_) (fun r1=>?_)
  ·
   have h1:=tz1 r1;(iterate 3 refine qy ?_ (hg:=(gtt r1)));refine qcx (wgx Tryz.func238) (biv l p ((fq p).getD i default)) ?_ (hg:=(gtt r1));refine w_2 ?_;refine ak _ rfl (fun r2=>?_) (fun r2=>?_)
   · have h2:=br r1 r2;refine c5 ?_;exact lpx (i + 1) ⟨⟨⟨_,rfl,(by first | exact bj (by rw [bOr,abg bqi (adb (sa.symm.trans (decide_eq_true bqj)) bqj)];rfl) | exact bj (by rw [vj bqi (a8m bqj)]) | exact bj (by rw [vj bqi (a8i (sa.symm.trans (decide_eq_false bqj)))]))⟩,tt⟩,trivial⟩
   have h2:=br r1 r2;refine w_5 ?_;exact lpx (i + 1) ⟨⟨⟨_,rfl,(by first | exact bj (by rw [bOr,abg bqi (adb (sa.symm.trans (decide_eq_true bqj)) bqj)];rfl) | exact bj (by rw [vj bqi (a8m bqj)]) | exact bj (by rw [vj bqi (a8i (sa.symm.trans (decide_eq_false bqj)))]))⟩,tt⟩,trivial⟩
  have h1:=tz2 r1;(iterate 4 refine k9 (gft r1) ?_);refine rq rfl rfl rfl rfl rfl ?_ (hp:=r1);refine w_7 ?_
  exact lpx (i + 1) ⟨⟨⟨_,rfl,(by first | exact bj (by rw [bOr,abg bqi (adb (sa.symm.trans (decide_eq_true bqj)) bqj)];rfl) | exact bj (by rw [vj bqi (a8m bqj)]) | exact bj (by rw [vj bqi (a8i (sa.symm.trans (decide_eq_false bqj)))]))⟩,tt⟩,trivial⟩
 obtain rfl:i = (fq p).length:=by omega
 refine v_6 ?_;exact ⟨cci (by rw [auq]),trivial⟩
end
end Go.Hx

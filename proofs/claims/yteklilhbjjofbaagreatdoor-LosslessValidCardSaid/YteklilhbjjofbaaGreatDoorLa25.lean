/- A part of the proof: Cc1 Cc2 Cc3 Ls1 Cs24 V23 Cs26 Cs27 Cs28 Cs30 Cs31 Cs32 Cs33 Cs34 Cs35 Cs36 Cz1m Cs37 Cs40 Ls2 Ls3 Ls5. -/
import Derived.Test.YteklilhbjjofbaaGreatDoorLa24
set_option linter.all false
set_option maxRecDepth 100000
namespace Go.Hx
section
def AgE (E:Int -> Int -> Prop) (a b:Rw) (s:AS):Prop:=∀ i:Nat,i < a.length -> bc s (i:Int) = true -> E (a.getD i default) (b.getD i default)
structure Mdl (N:Nat) (p m:List Fd) (E:Int -> Int -> Prop) (R:Rw -> Prop):Prop where
 refl:∀ x,E x x
 symm:∀ {x y},E x y -> E y x
 trans:∀ {x y z},E x y -> E y z -> E x z
 len:∀ {r},R r -> r.length = N
 cong:∀ {r r':Rw},R r -> r'.length = r.length -> (∀ i,i < r.length -> E (r.getD i default) (r'.getD i default)) -> R r'
 fd:∀ {x},x ∈ p -> ∀ {a b},R a -> R b -> AgE E a b x.lhs -> AgE E a b x.rhs
 mv:∀ {x},x ∈ m -> ∀ {a b},R a -> R b -> AgE E a b x.lhs -> R (cj a b (x.lhs ||| x.rhs))
def LE (N:Nat) (p m:List Fd) (l:List Rw) (x y:Int):Prop:=∀ E R,Mdl N p m E R -> (∀ r,r ∈ l -> R r) -> E x y
def LR (N:Nat) (p m:List Fd) (l:List Rw) (r:Rw):Prop:=∀ E R,Mdl N p m E R -> (∀ r,r ∈ l -> R r) -> R r
def aqv (N:Nat) (p m:List Fd):Mdl N p m (fun _ _=>True) (fun r=>r.length = N) :=
 ⟨fun _=>trivial,fun _=>trivial,fun _ _=>trivial,fun h=>h,fun h e _=>e.trans h,fun _ _ _ _ _ _ _ _ _=>trivial,fun _ a b _ hb _=>(j2 _ _ _).trans hb⟩
def a0f {N:Nat} {p m:List Fd} {l:List Rw} (hl:∀ r,r ∈ l -> r.length = N):Mdl N p m (LE N p m l) (LR N p m l) where
 refl x:=fun E R h _=>h.refl x
 symm h:=fun E R k kl=>k.symm (h E R k kl)
 trans h h2:=fun E R k kl=>k.trans (h E R k kl) (h2 E R k kl)
 len h:=h _ _ (aqv N p m) hl
 cong h e h2:=fun E R k kl=>k.cong (h E R k kl) e fun i hi=>h2 i hi E R k kl
 fd hx _ _ ha hb hl:=fun i hi hs E R k kl=>k.fd hx (ha E R k kl) (hb E R k kl) (fun j hj hh=>hl j hj hh E R k kl) i hi hs
 mv hx _ _ ha hb hl:=fun E R k kl=>k.mv hx (ha E R k kl) (hb E R k kl) fun j hj hh=>hl j hj hh E R k kl
structure Ch (N:Nat) (p m:List Fd) (l0 l:List Rw) (σ:Int -> Int):Prop where
 rows:∀ r,r ∈ l -> LR N p m l0 r
 sym:∀ s,LE N p m l0 s (σ s)
 img:∀ r,r ∈ l0 -> r.map σ ∈ l
 fix:∀ r,r ∈ l -> ∀ z,z ∈ r -> σ z = z
 le:∀ s,σ s <= s
section
variable {N:Nat} {p m:List Fd} {l0 l l':List Rw} {σ σ':Int -> Int} {n:Int}
theorem Ch.start:Ch N p m l0 l0 id:=⟨fun r hr E R _ hl=>hl r hr,fun s E R k _=>k.refl s,fun r hr=>by rw [List.map_id];exact hr,fun _ _ _ _=>rfl,fun s=>Int.le_refl s⟩
theorem Ch.congr (h:Ch N p m l0 l σ) (e:∀ r,r ∈ l' <-> r ∈ l):Ch N p m l0 l' σ :=
 ⟨fun r hr=>h.rows r ((e r).1 hr),h.sym,fun r hr=>(e _).2 (h.img r hr),fun r hr=>h.fix r ((e r).1 hr),h.le⟩
def lh (hi lo z:Int):Int:=if z = hi then lo else z
section
variable {f:Int -> Int}
def fp {r:Rw} {i:Nat} (h:i < r.length):(r.map f).getD i default = f (r.getD i default):=by
 rw [b2t,b39,b2s h,b2t,b2s h];rfl
theorem Ch.sub (hl0:∀ r,r ∈ l0 -> r.length = N) (h:Ch N p m l0 l σ) {hi lo:Int} (hE:LE N p m l0 hi lo) (hle:lo <= hi) (hin:∃ r,r ∈ l /\ lo ∈ r):Ch N p m l0 (l.map fun r=>r.map (lh hi lo)) (fun s=>lh hi lo (σ s)):=by
 have hm:=a0f (p:=p) (m:=m) hl0
 have hs:∀ z,LE N p m l0 z (lh hi lo z):=fun z=>by
  unfold lh;split
  · rename_i e;rw [e];exact hE
  exact hm.refl z
 refine ⟨fun r hr=>?_,fun s=>hm.trans (h.sym s) (hs _),fun r hr=>?_,fun r hr z hz=>?_,fun s=>?_⟩
 · obtain ⟨r0,h0,rfl⟩:=b3k.1 hr
   exact hm.cong (h.rows r0 h0) b5r fun i hi=>by rw [fp hi];exact hs _
 · refine b3k.2 ⟨_,h.img r hr, ?_⟩
   rw [List.map_map];rfl
 · obtain ⟨r0,h0,rfl⟩:=b3k.1 hr
   obtain ⟨y,hy,rfl⟩:=b3k.1 hz;obtain ⟨r1,h1,h2⟩:=hin;have e1:=h.fix r0 h0 y hy;have e2:=h.fix r1 h1 lo h2;by_cases e:y = hi
   · have e3:lh hi lo y = lo:=if_pos e
     show lh hi lo (σ (lh hi lo y)) = lh hi lo y;rw [e3,e2];unfold lh;split <;> rfl
   have e3:lh hi lo y = y:=if_neg e;show lh hi lo (σ (lh hi lo y)) = lh hi lo y;rw [e3,e1,e3]
 have h1:=h.le s
 have h2:lh hi lo (σ s) <= σ s:=by
  unfold lh;split <;> omega
 exact Int.le_trans h2 h1
def agn {M:Nat -> Nat -> Int} {a b j:Nat}:cg l (eqM M a b j) = (cg l M).map fun r=>r.map (lh (hiI (M a j) (M b j)) (loI (M a j) (M b j))):=by
 unfold cg;rw [List.map_map];refine b4g fun i _=>?_;show _ = List.map _ (List.map _ _);rw [List.map_map];rfl
def akd {M:Nat -> Nat -> Int} {a j:Nat} (ha:a < l.length) (hj:j < (l.getD a default).length):∃ r,r ∈ cg l M /\ M a j ∈ r :=
 a3j.2 ⟨a,j,ha,hj,rfl⟩
theorem Ch.eqMs (hl0:∀ r,r ∈ l0 -> r.length = N) {a b:Nat} (ha:a < l.length) (hb:b < l.length):∀ {js:List Nat} {M:Nat -> Nat -> Int} {σ:Int -> Int},Ch N p m l0 (cg l M) σ -> (∀ j,j ∈ js -> j < (l.getD a default).length /\ j < (l.getD b default).length /\ LE N p m l0 (M a j) (M b j)) ->
 ∃ σ',Ch N p m l0 (cg l (eqMs M a b js)) σ'
 | [],M,σ,h,_=>⟨σ,h⟩
 | j :: js,M,σ,h,hj=>by
  obtain ⟨h1,h2,h3⟩:=hj j b5r;have hm:=a0f (p:=p) (m:=m) hl0;have hlo:loI (M a j) (M b j) <= hiI (M a j) (M b j):=by unfold loI hiI;split <;> split <;> omega
  have hE:LE N p m l0 (hiI (M a j) (M b j)) (loI (M a j) (M b j)):=by
   rcases ap9 (M a j) (M b j) with e | e <;> rcases ag5 (M a j) (M b j) with f | f <;> rw [e,f]
   · exact hm.refl _
   · exact h3
   · exact hm.symm h3
   exact hm.refl _
  have hin:∃ r,r ∈ cg l M /\ loI (M a j) (M b j) ∈ r:=by
   rcases ag5 (M a j) (M b j) with f | f <;> rw [f]
   · exact akd ha h1
   exact akd hb h2
  have hq:=h.sub hl0 hE hlo hin;rw [<- agn] at hq
  have hs:∀ z,LE N p m l0 z (if z = hiI (M a j) (M b j) then loI (M a j) (M b j) else z):=fun z=>by
   split
   · rename_i e;rw [e];exact hE
   exact hm.refl z
  exact Ch.eqMs hl0 ha hb (js:=js) hq fun k hk=>by
   obtain ⟨h4,h5,h6⟩:=hj k (by simp [hk]);exact ⟨h4,h5,hm.trans (hm.symm (hs (M a k))) (hm.trans h6 (hs (M b k)))⟩
def ae9:cg l (bd l) = l:=by
 refine jw (im _ _) fun i hi=>?_;rw [im] at hi;rw [a81 hi];refine jw b5r fun k hk=>?_;simp only [b3l,List.length_range] at hk;rw [b2t,b39,b3v hk];rfl
def ahj (hl0:∀ r,r ∈ l0 -> r.length = N) {a b:Rw} {s:AS} (h:gq a b s = true):AgE (LE N p m l0) a b s:=fun i hi hs=>by
 rw [of_decide_eq_true h i hi hs];exact (a0f hl0).refl _
def dc {α:Type} [Inhabited α] {l:List α} {i:Nat} (h:i < l.length):l.getD i default ∈ l:=by
 rw [b2t,b2s h];exact b38 h
def ala {a b:Rw} {s:AS} (hl:a.length = b.length) {z:Int} (hz:z ∈ cj a b s):z ∈ a \/ z ∈ b:=by
 unfold cj at hz;rw [b3k] at hz;obtain ⟨i,hi,rfl⟩:=hz;have hi:=b3i.1 hi;split
 · exact .inl (dc b5o)
 exact .inr (dc hi)
def ao7 (l:List Rw) (p m:List Fd) (s:St):Prop:=s.2.2.1 < l.length /\ s.2.2.2 < l.length /\ (s.1 = false -> s.2.1 < p.length) /\ (s.1 = true -> s.2.1 < m.length)
theorem Ch.app (hl0:∀ r,r ∈ l0 -> r.length = n.toNat) (hT:tok n l = true) (hp:p.all (inU n) = true) (h:Ch n.toNat p m l0 l σ) {s:St} (hs:ao7 l p m s) (he:(bu n l p m s).2.2 = 0) :
 (bu n l p m s).1 = n /\ ∃ σ',Ch n.toNat p m l0 (bu n l p m s).2.1 σ':=by
 obtain ⟨mu,i,a,b⟩:=s;obtain ⟨ha,hb,hf,hv⟩:=hs;obtain ⟨h0,h1,h2,h3⟩:=eu hT;have ha:a < l.length:=ha;have hb:b < l.length:=hb;have hra:=h3 a ha;have hrb:=h3 b hb
 cases mu with
 | false =>
  have hi:i < p.length:=hf rfl;have e0:bu n l p m (false,i,a,b) = fdE n l a b (p.getD i default):=rfl;rw [e0] at he ⊢;by_cases hg:gq (l.getD a default) (l.getD b default) (p.getD i default).lhs = true
  · have e1:fdE n l a b (p.getD i default) = (n,ae (cg l (Go.Hx.eqMs (bd l) a b (b6 (p.getD i default).rhs))),0):=if_pos hg
    rw [e1];refine ⟨rfl, ?_⟩;have hu:inU n (p.getD i default) = true:=b3x.1 hp _ (dc hi);have hm:=a0f (p:=p) (m:=m) hl0;have hR:=hm.fd (dc hi) (h.rows _ (dc ha)) (h.rows _ (dc hb)) (ahj hl0 hg)
    obtain ⟨σ',hσ⟩:=Ch.eqMs (p:=p) (m:=m) hl0 ha hb (js:=b6 (p.getD i default).rhs) (M:=bd l) (σ:=σ) (by rw [ae9];exact h) fun j hj=>by
     have h4:=a0c h0 h1 hu hj;have h5:=ua.1 hj;refine ⟨Nat.lt_of_lt_of_eq h4 hra.symm,Nat.lt_of_lt_of_eq h4 hrb.symm,hR j (Nat.lt_of_lt_of_eq h4 hra.symm) (by rw [ef h5.1];exact h5.2)⟩
    exact ⟨σ',hσ.congr fun r=>ej⟩
  have e1:fdE n l a b (p.getD i default) = (0,[],1):=if_neg hg;rw [e1] at he;exact absurd he b5t
 | true =>
  have hi:i < m.length:=hv rfl;have e0:bu n l p m (true,i,a,b) = mvE n l a b (m.getD i default):=rfl;rw [e0] at he ⊢;by_cases hg:gq (l.getD a default) (l.getD b default) (m.getD i default).lhs = true
  · have e1:mvE n l a b (m.getD i default) = nj n l (cj (l.getD a default) (l.getD b default) ((m.getD i default).lhs ||| (m.getD i default).rhs)):=if_pos hg
    rw [e1] at he ⊢;by_cases hbig:256 < (ae (l ++ [cj (l.getD a default) (l.getD b default) ((m.getD i default).lhs ||| (m.getD i default).rhs)])).length
    · have e2:nj n l (cj (l.getD a default) (l.getD b default) ((m.getD i default).lhs ||| (m.getD i default).rhs)) = (0,[],3):=if_pos hbig
      rw [e2] at he;exact absurd he b5t
    have e2:nj n l (cj (l.getD a default) (l.getD b default) ((m.getD i default).lhs ||| (m.getD i default).rhs)) = (n,ae (l ++ [cj (l.getD a default) (l.getD b default) ((m.getD i default).lhs ||| (m.getD i default).rhs)]),0):=if_neg hbig;rw [e2];refine ⟨rfl,σ, ?_⟩;have hm:=a0f (p:=p) (m:=m) hl0;have hR:=hm.mv (dc hi) (h.rows _ (dc ha)) (h.rows _ (dc hb)) (ahj hl0 hg);refine ⟨fun r hr=>?_,h.sym,fun r hr=>ej.2 (b35 _ (h.img r hr)),fun r hr z hz=>?_,h.le⟩
    · rcases b3f.1 (ej.1 hr) with h4 | h4
      · exact h.rows r h4
      rw [b3c.1 h4];exact hR
    rcases b3f.1 (ej.1 hr) with h4 | h4
    · exact h.fix r h4 z hz
    rw [b3c.1 h4] at hz
    rcases ala b5o hz with h5 | h5
    · exact h.fix _ (dc ha) z h5
    exact h.fix _ (dc hb) z h5
  have e1:mvE n l a b (m.getD i default) = (0,[],1):=if_neg hg;rw [e1] at he;exact absurd he b5t
def a58 {P:Nat -> Nat -> Nat -> Bool} {I L:Nat} (h:dp P I L = none) {i a b:Nat} (hi:i < I) (ha:a < L) (hb:b < L):P i a b = false:=by
 unfold dp at h;rw [b57] at h;have h1:=h i (b3i.2 hi);rw [b57] at h1;have h2:=h1 a (b3i.2 ha);rw [Option.map_eq_none_iff,List.find?_eq_none] at h2;exact b31.2 (h2 b (b3i.2 hb))
def ajw (h:cw l p m = none):(∀ i,i < p.length -> ∀ a,a < l.length -> ∀ b,b < l.length -> d6 l (p.getD i default) a b = false) /\ ∀ i,i < m.length -> ∀ a,a < l.length -> ∀ b,b < l.length -> db l (m.getD i default) a b = false:=by
 unfold cw at h;split at h
 · cases h
 rename_i e;rw [Option.map_eq_none_iff] at h;exact ⟨fun i hi a ha b hb=>a58 (P:=fun i a b=>d6 l (p.getD i default) a b) e hi ha hb,fun i hi a ha b hb=>a58 (P:=fun i a b=>db l (m.getD i default) a b) h hi ha hb⟩
def o4 {α:Type} [Inhabited α] {l:List α} {x:α} (h:x ∈ l):∃ i,i < l.length /\ l.getD i default = x:=by
 obtain ⟨i,hi,rfl⟩:=b3u h;exact ⟨i,hi,by rw [b2t,b2s hi];rfl⟩
def alb {a b:Rw} {s:AS} (hl:a.length = b.length):cj (a.map f) (b.map f) s = (cj a b s).map f:=by
 unfold cj;rw [List.map_map,b3l];refine b4g fun i hi=>?_;have hi:=b3i.1 hi;show _ = f (if bc s (i:Int) = true then a.getD i default else b.getD i default);split
 · rw [fp b5o]
 rw [fp hi]
theorem Ch.mdl (hT:tok n l = true) (hn:cw l p m = none) (σ:Int -> Int):Mdl n.toNat p m (fun x y=>σ x = σ y) (fun r=>r.length = n.toNat /\ r.map σ ∈ l):=by
 obtain ⟨hF,hM⟩:=ajw hn;refine ⟨fun _=>rfl,fun h=>h.symm,fun h k=>h.trans k,fun h=>h.1,fun {r r'} h e h2=>⟨e.trans h.1, ?_⟩,fun {x} hx {a b} ha hb hl i hi hs=>?_,fun {x} hx {a b} ha hb hl=>⟨(j2 _ _ _).trans hb.1, ?_⟩⟩
 · have:r'.map σ = r.map σ:=by
    refine jw (by simp [e]) fun i hi=>?_;rw [b3l] at hi;rw [fp hi,fp b5o];exact (h2 i b5o).symm
   rw [this];exact h.2
 · obtain ⟨k,hk,rfl⟩:=o4 hx
   obtain ⟨ia,hia,ea⟩:=o4 ha.2;obtain ⟨ib,hib,eb⟩:=o4 hb.2;have h1:=hF k hk ia hia ib hib;unfold d6 at h1;rw [ea,eb,vw (fun j hj hs=>by rw [b3l] at hj;rw [fp hj,fp (by rw [hb.1,<- ha.1];exact hj)];exact hl j hj hs),b4o,Bool.not_eq_false'] at h1;have h2:=of_decide_eq_true h1 i (by rw [b3l];exact hi) hs;rw [fp hi,fp (by rw [hb.1,<- ha.1];exact hi)] at h2;exact h2
 obtain ⟨k,hk,rfl⟩:=o4 hx;obtain ⟨ia,hia,ea⟩:=o4 ha.2;obtain ⟨ib,hib,eb⟩:=o4 hb.2;have h1:=hM k hk ia hia ib hib;unfold db at h1;rw [ea,eb,vw (fun j hj hs=>by rw [b3l] at hj;rw [fp hj,fp (by rw [hb.1,<- ha.1];exact hj)];exact hl j hj hs),b4o,Bool.not_eq_false'] at h1;obtain ⟨r,hr,e⟩:=b3z.1 h1;rw [<- alb (by rw [ha.1,hb.1]),<- of_decide_eq_true e];exact hr
theorem Ch.has (h:Ch n.toNat p m l0 l σ) (hT:tok n l = true) (hl0:∀ r,r ∈ l0 -> r.length = n.toNat) (hn:cw l p m = none):(∀ x y,LE n.toNat p m l0 x y -> σ x = σ y) /\ ∀ r,LR n.toNat p m l0 r -> r.map σ ∈ l:=by
 have hm:=Ch.mdl (p:=p) (m:=m) hT hn σ;have hl:∀ r,r ∈ l0 -> r.length = n.toNat /\ r.map σ ∈ l:=fun r hr=>⟨hl0 r hr,h.img r hr⟩;exact ⟨fun x y e=>e _ _ hm hl,fun r e=>(e _ _ hm hl).2⟩
def a6p:∀ {r:Rw},(∀ z,z ∈ r -> f z = z) -> r.map f = r
 | [],_=>rfl
 | z :: r,h=>by rw [b4e,h z b5r,a6p fun y hy=>h y (by simp [hy])]
theorem Ch.mem (h:Ch n.toNat p m l0 l σ) (hT:tok n l = true) (hl0:∀ r,r ∈ l0 -> r.length = n.toNat) (hn:cw l p m = none) {r:Rw}:r ∈ l <-> LR n.toNat p m l0 r /\ r.map σ = r:=by
 constructor
 · intro hr
   exact ⟨h.rows r hr,a6p (h.fix r hr)⟩
 rintro ⟨h1,h2⟩;rw [<- h2];exact (h.has hT hl0 hn).2 r h1
end
end
end
section
def awu:List (List Int) -> List Rw
 | []=>[[]]
 | c :: cs=>c.flatMap fun z=>(awu cs).map fun r=>z :: r
section
variable {N:Nat} {p m:List Fd} {l0 l:List Rw}
def afx {a b:Rw} {s:AS} {i:Nat} (h:i < b.length):(cj a b s).getD i default = if bc s (i:Int) = true then a.getD i default else b.getD i default:=by
 unfold cj;rw [b2t,b39,b3v h];rfl
def aml (C:Nat -> List Int) (hd:∀ i j z,z ∈ C i -> z ∈ C j -> i = j):Mdl N p m (fun x y=>x = y \/ ∃ i,x ∈ C i /\ y ∈ C i) (fun r=>r.length = N /\ ∀ i,i < N -> r.getD i default ∈ C i) where
 refl _:=.inl rfl
 symm h:=by
  rcases h with h | ⟨i,h,k⟩
  · exact .inl h.symm
  exact .inr ⟨i,k,h⟩
 trans h h2:=by
  rcases h with h | ⟨i,h,k⟩
  · rw [h];exact h2
  rcases h2 with h2 | ⟨j,h2,k2⟩
  · rw [<- h2];exact .inr ⟨i,h,k⟩
  have:=hd i j _ k h2;subst this;exact .inr ⟨i,h,k2⟩
 len h:=h.1
 cong h e h2:=⟨e.trans h.1,fun i hi=>by
  have h3:=h.2 i hi
  rcases h2 i (by rw [h.1];exact hi) with h4 | ⟨j,h4,h5⟩
  · rw [<- h4];exact h3
  have:=hd i j _ h3 h4;subst this
  exact h5⟩
 fd _ a b ha hb _:=fun i hi _=>.inr ⟨i,ha.2 i (by rw [<- ha.1];exact hi),hb.2 i (by rw [<- ha.1];exact hi)⟩
 mv _ a b ha hb _:=⟨(j2 _ _ _).trans hb.1,fun i hi=>by
  rw [afx (by rw [hb.1];exact hi)];split
  · exact ha.2 i hi
  exact hb.2 i hi⟩
def agk:Mdl N p m (fun x y=>0 <= x <-> 0 <= y) (fun r=>r.length = N /\ ∀ i,i < r.length -> 0 <= r.getD i default) where
 refl _:=Iff.rfl
 symm h:=h.symm
 trans h h2:=h.trans h2
 len h:=h.1
 cong h e h2:=⟨e.trans h.1,fun i hi=>(h2 i b5o).1 (h.2 i b5o)⟩
 fd _ a b ha hb _:=fun i hi _=>⟨fun _=>hb.2 i (by rw [hb.1,<- ha.1];exact hi),fun _=>ha.2 i hi⟩
 mv _ a b ha hb _:=⟨(j2 _ _ _).trans hb.1,fun i hi=>by
  rw [j2] at hi;rw [afx hi];split
  · exact ha.2 i (by rw [ha.1,<- hb.1];exact hi)
  exact hb.2 i hi⟩
def ahy (N:Nat) (p m:List Fd) (l0:List Rw):Prop:=∀ l,jq l -> (∀ r,r ∈ l -> LR N p m l0 r) -> l.length <= 256
end
section
variable {p m:List Fd} {l0 l:List Rw} {n:Int} {σ:Int -> Int}
def atq (h0:tok n l0 = true) (hS:ahy n.toNat p m l0) (ho:jq l) (h:∀ r,r ∈ l -> LR n.toNat p m l0 r):tok n l = true:=by
 obtain ⟨h1,h2,_⟩:=eu h0;refine akw h1 h2 (hS l ho h) (fun r hr=>?_) ho;have h3:=h r hr _ _ agk fun r0 hr0=>⟨(lb h0 r0 hr0).1,fun i hi=>(lb h0 r0 hr0).2 _ (dc hi)⟩;refine ⟨h3.1,fun z hz=>?_⟩;obtain ⟨i,hi,rfl⟩:=o4 hz;exact h3.2 i hi
def alp {s:St} (h:(bu n l p m s).2.2 = 0):jq (bu n l p m s).2.1:=by
 unfold bu at *;split at h
 · rename_i e
   rw [if_pos e];unfold mvE nj at *;split at h
   · rename_i e2
     rw [if_pos e2];split at h
     · exact absurd h b5t
     rename_i e3;rw [if_neg e3];exact dw _
   exact absurd h b5t
 rename_i e;rw [if_neg e];unfold fdE at *;split at h
 · rename_i e2
   rw [if_pos e2];exact dw _
 exact absurd h b5t
theorem Ch.step (h0:tok n l0 = true) (hS:ahy n.toNat p m l0) (hp:p.all (inU n) = true) (hT:tok n l = true) (h:Ch n.toNat p m l0 l σ) {s:St} (hs:ao7 l p m s) (he:(bu n l p m s).2.2 = 0) :
 ∃ l' σ',bu n l p m s = (n,l',0) /\ tok n l' = true /\ Ch n.toNat p m l0 l' σ':=by
 obtain ⟨h1,σ',h2⟩:=Ch.app (fun r hr=>(lb h0 r hr).1) hT hp h hs he;have h3:=atq h0 hS (alp he) h2.rows;refine ⟨_,σ', ?_,h3,h2⟩
 conv=>lhs;rw [<- Prod.eta (bu n l p m s),<- Prod.eta (bu n l p m s).2,h1,he]
def afm {s:St} (h:qo l p m s):ao7 l p m s:=by
 obtain ⟨h1,h2,h3⟩:=h;refine ⟨h1,h2,fun e=>?_,fun e=>?_⟩
 · rcases h3 with ⟨_,h,_⟩ | ⟨h,_⟩
   · exact h
   rw [e] at h;cases h
 rcases h3 with ⟨h,_⟩ | ⟨_,h,_⟩
 · rw [e] at h;cases h
 exact h
theorem Ch.code (h0:tok n l0 = true) (hS:ahy n.toNat p m l0) (hp:p.all (inU n) = true) (hT:tok n l = true) (h:Ch n.toNat p m l0 l σ) {s:St} (hs:qo l p m s):(bu n l p m s).2.2 = 0:=by
 rcases aco hT hp hs with e | ⟨l',e,_⟩
 · obtain ⟨mu,i,a,b⟩:=s
   obtain ⟨ha,hb,hs | hs⟩:=hs
   · obtain ⟨h1,h2,h3⟩:=hs
     cases h1;have h4:bu n l p m (false,i,a,b) = fdE n l a b (p.getD i default):=rfl;have hg:=(ah0 hT (b3x.1 hp _ (dc h2)) ha hb h3).1;have hg:fdE n l a b (p.getD i default) = (n,fdL l a b (p.getD i default),0):=hg;rw [h4,hg] at e ⊢
   obtain ⟨h1,h2,h3⟩:=hs;cases h1;have h4:bu n l p m (true,i,a,b) = mvE n l a b (m.getD i default):=rfl;have h5:db l (m.getD i default) a b = true:=h3;unfold db at h5;rw [b30] at h5;have h6:mvE n l a b (m.getD i default) = nj n l (cj (l.getD a default) (l.getD b default) ((m.getD i default).lhs ||| (m.getD i default).rhs)):=if_pos h5.1;have hl0:∀ r,r ∈ l0 -> r.length = n.toNat:=fun r hr=>(lb h0 r hr).1
   have h7:=hS (ae (l ++ [cj (l.getD a default) (l.getD b default) ((m.getD i default).lhs ||| (m.getD i default).rhs)])) (dw _) fun r hr=>by
    rcases b3f.1 (ej.1 hr) with h8 | h8
    · exact h.rows r h8
    rw [b3c.1 h8];exact (a0f hl0).mv (dc h2) (h.rows _ (dc ha)) (h.rows _ (dc hb)) (ahj hl0 h5.1)
   rw [h4,h6];unfold nj;rw [if_neg b5o]
 rw [e]
def TrZ (n:Int) (p m:List Fd) (lend:List Rw):List Rw -> List St -> Prop
 | l,[]=>l = lend
 | l,s :: r=>tok n l = true /\ qo l p m s /\ ∃ l',bu n l p m s = (n,l',0) /\ ¬ l' = l /\ TrZ n p m lend l' r
end
def stC (n:Int) (ps:List AS) (c:Nat):List Int:=if c < n.toNat then (List.range ps.length).map fun i=>stV n i (ps.getD i default) c else []
section
variable {n:Int} {ps:List AS} {p m:List Fd}
def a5n (h0:0 <= n) {i c:Nat} {q:AS} (hc:c < n.toNat):stV n i q c % n = (c:Int):=by
 unfold stV;split
 · exact Int.emod_eq_of_lt b5o b5o
 have e:n + (i:Int) * n + (c:Int) = (c:Int) + n * (1 + (i:Int)):=by rw [Int.mul_add,Int.mul_one,Int.mul_comm (i:Int) n];omega
 rw [e,Int.add_mul_emod_self_left];exact Int.emod_eq_of_lt b5o b5o
def a6u (h0:0 <= n) {c:Nat} {z:Int} (h:z ∈ stC n ps c):c < n.toNat /\ z % n = (c:Int):=by
 unfold stC at h;split at h
 · rename_i hc
   obtain ⟨i,_,rfl⟩:=b3k.1 h;exact ⟨hc,a5n h0 hc⟩
 simp at h
def arq (h0:0 <= n):∀ i j z,z ∈ stC n ps i -> z ∈ stC n ps j -> i = j:=fun i j z h k=>by
 have h1:=(a6u h0 h).2;have h2:=(a6u h0 k).2;omega
def a51 {r:Rw} (hr:r ∈ ah n ps):r.length = n.toNat /\ ∀ i,i < n.toNat -> r.getD i default ∈ stC n ps i:=by
 unfold ah at hr;obtain ⟨k,hk,rfl⟩:=b3k.1 hr;refine ⟨oq _ _ _,fun i hi=>?_⟩;rw [wu hi];unfold stC;rw [if_pos hi];exact b3k.2 ⟨k,hk,rfl⟩
end
end
section
section
variable {n:Int} {ps:List AS} {p m:List Fd} {l l0:List Rw} {σ:Int -> Int}
def aw4 {N:Nat} {l l':List Rw} (h:∀ r,r ∈ l <-> r ∈ l') {r:Rw}:LR N p m l r <-> LR N p m l' r :=
 ⟨fun k E R hm hl=>k E R hm fun r hr=>hl r ((h r).1 hr),fun k E R hm hl=>k E R hm fun r hr=>hl r ((h r).2 hr)⟩
def aiq (h0:0 <= n) {c:Nat} {z:Int} (h:z ∈ stC n ps c):z = (c:Int) \/ n <= z:=by
 unfold stC at h;split at h
 · obtain ⟨i,_,rfl⟩:=b3k.1 h
   unfold stV;split
   · exact .inl rfl
   right;have:=Int.mul_nonneg (show (0:Int) <= (i:Int) by omega) h0;omega
 simp at h
theorem Ch.first (h0:0 <= n) (h:Ch n.toNat p m (ae (ah n ps)) l σ):(bg n).map σ = bg n:=by
 refine a6p fun z hz=>?_;unfold bg at hz;obtain ⟨c,hc,rfl⟩:=b3k.1 hz;have hc:=b3i.1 hc;have h1:=h.sym (c:Int) _ _ (aml (stC n ps) (arq h0)) fun r hr=>a51 (ej.1 hr)
 rcases h1 with h1 | ⟨i,h1,h2⟩
 · exact h1.symm
 have h3:=(a6u h0 h1).2;have h4:=Int.emod_eq_of_lt (a:=(c:Int)) (b:=n) b5o b5o;have h5:i = c:=by omega
 subst h5;have h6:=h.le (i:Int)
 rcases aiq h0 h2 with h7 | h7
 · exact h7
 omega
def ut {r:Rw}:(l.any fun x=>decide (x = r)) = decide (r ∈ l):=by
 rw [b5d,b3z,decide_eq_true_iff];constructor
 · rintro ⟨x,hx,e⟩
   rw [<- of_decide_eq_true e];exact hx
 intro h;exact ⟨r,h,decide_eq_true rfl⟩
def swI (n z:Int):Int:=if n <= z /\ z < 2 * n then z + n else if 2 * n <= z /\ z < 3 * n then z - n else z
abbrev b1q (n:Int) (x:Fd):Fd:=⟨x.lhs,ax n &&& ~~~(x.lhs ||| x.rhs)⟩
end
end
section
section
variable {n:Int} {p m:List Fd} {l0 l:List Rw} {σ:Int -> Int}
def ali (hT:tok n l = true) (hp:p.all (inU n) = true) (hm:m = []) {s:St} (hs:qo l p m s):(bu n l p m s).2.2 = 0:=by
 obtain ⟨mu,i,a,b⟩:=s;obtain ⟨ha,hb,hs | hs⟩:=hs
 · obtain ⟨h1,h2,h3⟩:=hs
   cases h1;have h4:bu n l p m (false,i,a,b) = fdE n l a b (p.getD i default):=rfl;have hg:fdE n l a b (p.getD i default) = (n,fdL l a b (p.getD i default),0):=(ah0 hT (b3x.1 hp _ (dc h2)) ha hb h3).1;rw [h4,hg]
 obtain ⟨_,h2,_⟩:=hs;subst hm;exact absurd h2 (b2y _)
def ak4 (hl0:∀ r,r ∈ l0 -> r.length = n.toNat) (hp:p.all (inU n) = true) (Z:List Int):∀ (F:Nat) (l:List Rw) (acc:List St) (σ:Int -> Int),tok n l = true -> Ch n.toNat p m l0 l σ -> Cov Z l -> muC Z l < F ->
 (f7 F n l p m acc = ([],(0,[]),3) /\ ¬ m = []) \/ ∃ sts lend σ',f7 F n l p m acc = (acc ++ sts,(n,lend),0) /\ Ch n.toNat p m l0 lend σ' /\ tok n lend = true /\ cw lend p m = none /\ TrZ n p m lend l sts:=by
 intro F
 induction F with
 | zero=>intro _ _ _ _ _ _ h;exact absurd h (b2y _)
 | succ F ih =>
  intro l acc σ hT hC hZ hF
  cases hn:cw l p m with
  | none=>exact .inr ⟨[],l,σ,by rw [a54 b5o hn,b41],hC,hT,hn,rfl⟩
  | some s =>
   have hs:=a0w hn
   rcases aco hT hp hs with e | ⟨l',e,hT',h3⟩
   · left
     refine ⟨a4b b5o hn e b5t,fun hm=>?_⟩;have:=ali hT hp hm hs;rw [e] at this;exact absurd this b5t
   obtain ⟨h4,h5⟩:=h3 Z hZ;obtain ⟨_,σ',hC'⟩:=Ch.app hl0 hT hp hC (afm hs) (by rw [e]);rw [e] at hC'
   rcases ih l' (acc ++ [s]) σ' hT' hC' h4 b5o with ⟨q,q0⟩ | ⟨sts,lend,σ2,q1,q2,q3,q4,q5⟩
   · left
     exact ⟨by rw [vn b5o hn e,Nat.add_sub_cancel,q],q0⟩
   right;refine ⟨s :: sts,lend,σ2, ?_,q2,q3,q4,hT,hs,l',e,fun e=>?_,q5⟩
   · rw [vn b5o hn e,Nat.add_sub_cancel,q1,b4h]
     rfl
   subst e;omega
def al5 (hT:tok n l = true) (hb:bi n p m = 0):(fk FU n l p m = ([],(0,[]),3) /\ ¬ m = []) \/ ∃ sts lend σ,fk FU n l p m = (sts,(n,lend),0) /\ Ch n.toNat p m l lend σ /\ tok n lend = true /\ cw lend p m = none /\ TrZ n p m lend l sts:=by
 have hck:ckE n l p m = 0:=(if_pos hT).trans hb;rw [p6 hck]
 rcases ak4 (fun r hr=>(lb hT r hr).1) (sd hb).2.2.2.1 l.flatten FU l [] id hT Ch.start (ade l) (a9o hT) with h | ⟨sts,lend,σ',q1,q⟩
 · exact .inl h
 exact .inr ⟨sts,lend,σ',by rw [q1,List.nil_append],q⟩
def trL (n:Int) (p m:List Fd):List Rw -> List St -> List (List Rw)
 | l,[]=>[l]
 | l,s :: r=>l :: trL n p m (bu n l p m s).2.1 r
def a7h:∀ {sts:List St} {l:List Rw},(trL n p m l sts).length = sts.length + 1
 | [],_=>rfl
 | s :: r,l=>by unfold trL;rw [b49,a7h,b49]
def a9j:∀ {sts:List St} {l lend:List Rw},TrZ n p m lend l sts -> lend ∈ trL n p m l sts
 | [],l,lend,h=>by
  have h:l = lend:=h;subst h;simp [trL]
 | s :: r,l,lend,h=>by
  obtain ⟨_,_,l',e,_,h⟩:=h;unfold trL;rw [e];exact b43 _ (a9j h)
def ajh (hl0:∀ r,r ∈ l0 -> r.length = n.toNat) (hp:p.all (inU n) = true):∀ {sts:List St} {l lend:List Rw} {σ:Int -> Int},TrZ n p m lend l sts -> tok n lend = true -> Ch n.toNat p m l0 l σ -> ∀ t,t ∈ trL n p m l sts -> ∃ σ,Ch n.toNat p m l0 t σ
 | [],l,lend,σ,h,_,hC,t,ht=>by
  rw [b3c.1 (show t ∈ [l] from ht)];exact ⟨σ,hC⟩
 | s :: r,l,lend,σ,h,hTe,hC,t,ht=>by
  obtain ⟨hT,hs,l',e,_,h⟩:=h;unfold trL at ht;rw [e] at ht
  rcases b33.1 ht with rfl | ht
  · exact ⟨σ,hC⟩
  obtain ⟨_,σ',hC'⟩:=Ch.app hl0 hT hp hC (afm hs) (by rw [e]);rw [e] at hC';exact ajh hl0 hp h hTe hC' t ht
end
section
variable {n:Int} {ps:List AS} {p m:List Fd}
def a4p (h0:0 <= n) (h16:n <= 16) (hk:ps.length <= 64):tok n (ae (ah n ps)) = true:=by
 refine yt h0 h16 ?_ fun r hr=>?_
 · have:=ud (ah n ps)
   rw [lc] at this;omega
 obtain ⟨h1,h2⟩:=a51 hr;refine ⟨h1,fun z hz=>?_⟩;obtain ⟨i,hi,rfl⟩:=o4 hz
 rcases aiq h0 (h2 i b5o) with h3 | h3 <;> omega
def zq (hk:ps.length <= 64) (hb:bi n p m = 0) :
 (fk FU n (ae (ah n ps)) p m = ([],(0,[]),3) /\ ¬ m = []) \/ ∃ sts lend,fk FU n (ae (ah n ps)) p m = (sts,(n,lend),0) /\ (bg n ∈ lend <-> LR n.toNat p m (ah n ps) (bg n)) /\
  TrZ n p m lend (ae (ah n ps)) sts /\ tok n lend = true /\ ((∃ t,t ∈ trL n p m (ae (ah n ps)) sts /\ bg n ∈ t) <-> bg n ∈ lend):=by
 obtain ⟨h0,h16,_,hp,_⟩:=sd hb;have hT:=a4p h0 h16 hk;have hl0:∀ r,r ∈ ae (ah n ps) -> r.length = n.toNat:=fun r hr=>(lb hT r hr).1
 rcases al5 hT hb with h | ⟨sts,lend,σ,h1,h2,h3,h4,h5⟩
 · exact .inl h
 right
 have hf:bg n ∈ lend <-> LR n.toNat p m (ae (ah n ps)) (bg n):=by
  rw [h2.mem h3 hl0 h4];exact ⟨fun h=>h.1,fun h=>⟨h,h2.first h0⟩⟩
 refine ⟨sts,lend,h1,by rw [hf,aw4 (l':=ah n ps) fun r=>ej],h5,h3, ?_⟩;constructor
 · rintro ⟨t,ht,hft⟩
   obtain ⟨σ',hC⟩:=ajh hl0 hp h5 h3 Ch.start t ht;exact hf.2 (hC.rows _ hft)
 intro h;exact ⟨lend,a9j h5,h⟩
end
end
section
section
variable {n:Int} {l:List Fd}
end
def zg {α β:Type} [Inhabited α] {f:α -> β} {l:List α} {i:Nat} (h:i < l.length):(l.take (i + 1)).map f = (l.take i).map f ++ [f (l.getD i default)]:=by
 rw [bq h,List.map_append];rfl
structure Dps where
 n:BitVec 8
 l:List Dp
deriving Inhabited
def Dps.num (d:Dps):Int:=((d.n.toNat % 7:Nat):Int)
def Dps.fds (d:Dps):List Fd:=d.l.map (Dp.fd d.num)
def Dps.c (d:Dps):Nat -> PV
 | 0=>.raw (.int .u8 (d.n.toNat:Int))
 | 1=>dpl d.l
 | _=>.any
abbrev Dps.pc (d:Dps):PC:=.agg [d.c 0,d.c 1]
end
section
open Go.Proofs
def ap3 (n:Int) (l:List Dp) (hl:l.length <= 16777216):a8 b6e 95 [pI n,pP (dpl l)] (aa [pP (fdl (l.map (Dp.fd n)))]):=by
 refine hpx (nt:=37) Tryz.func95 ?_;refine w_7 ?_;refine qcx lr (lv n) ?_;refine jh ?_;refine dn 6 900 true 2 43 (lf Fd.c []) b5t rfl (CoP.sl rfl (.inr rfl) (fun h=>h) (fun i j hi _=>absurd hi (b2y i))) (.inr rfl) rfl ?_;refine bw (ka 1 (ka 5 kn)) km (fun i=>⟨[(6,some (.v (.one (.ref 900 ((l.take i).map (Dp.fd n)).length)))),(7,some (vI i))],[(900,some (.arr true 2 43 ((l.take i).map (Dp.fd n)).length (lf Fd.c ((l.take i).map (Dp.fd n)))))]⟩) l.length kk ?_;rintro i hi;have hlen:((l.take i).map (Dp.fd n)).length <= i:=by rw [b3l,b3h];omega
 refine w_8 ?_;refine hcd (fun h0=>?_) (fun h0=>?_)
 · refine agf ?_;refine m9 0 ?_;refine r9 1 true ?_;refine w_8 ?_;exact lpx (i + 1) ⟨⟨⟨_,rfl,(i6 (zg b5o))⟩,tt⟩,⟨⟨_,rfl,(tc (zg b5o) (CoP.of_eq (congrArg (fun z=>PV.raw (.int .u32 z)) (sg _ _))) (CoP.of_eq (congrArg (fun z=>PV.raw (.int .u32 z)) (sg _ _))))⟩,trivial⟩⟩
 obtain rfl:i = l.length:=by omega
 refine w_6 ?_;refine bf 4 rfl rfl rfl ?_;exact hx8 rfl rfl rfl (⟨CoC.one (CoP.of_eq (by rw [b37];rfl)),trivial⟩)
def cOf (d:Dps) (hl:d.l.length <= 16777216):a8 b6e 54 [d.pc] (aa [pI d.num,pP (fdl d.fds),pB (decide (d.l.length <= 6))]):=by
 refine hpx (nt:=19) Tryz.func54 ?_;refine sx7 ?_;refine m9 0 ?_;refine atj ?_;refine qcx (wgx Tryz.func95) (ap3 d.num d.l hl) ?_;refine v_9 ?_;exact ⟨cci (show (d.n.toNat:Int) % 7 = d.num by unfold Dps.num;omega),CoC.refl _,ccb (decide_eq_decide.2 b5o),trivial⟩
end
section
def noA (s:AS) (a:Nat):AS:=s &&& ~~~((1:AS) <<< a)
def av9 (n:Int) (l:List Fd) (s:AS) (a:Nat):AS:=if a5p n l (noA s a) = true then noA s a else s
def axs (n:Int) (l:List Fd) (s:AS) (k:Nat):AS:=(List.range k).foldl (fun s j=>av9 n l s (n.toNat - 1 - j)) s
def rkE (n:Int) (l:List Fd) (s:AS):Int:=if c6 n l = 0 then (if a5p n l s = true then 0 else 1) else c6 n l
def rkS (n:Int) (l:List Fd) (s:AS):AS:=if rkE n l s = 0 then axs n l s n.toNat else 0
def aww (n:Int) (l:List Fd) (s:AS):Bool:=a5p n l s && (List.range n.toNat).all fun a=>!(s.getLsbD a && a5p n l (noA s a))
def axb (n:Int) (l:List Fd) (i:Nat):List AS:=((List.range i).map (BitVec.ofNat 32)).filter (aww n l)
def aoy (n:Int) (l:List Fd):List AS:=if c6 n l = 0 then ord (axb n l (2 ^ n.toNat)) else []
end
section
def bC:Bool -> Nat -> PV:=fun b _=>.raw (.bool b)
def amn (n:Int) (l:List Fd) (k:Nat):Bool:=decide (clo l (BitVec.ofNat 32 k) = ax n)
def ayt (n:Int) (l:List Fd) (i:Nat):List Bool:=(List.range (2 ^ n.toNat)).map fun k=>decide (k < i) && amn n l k
def b1z (n:Int) (l:List Fd):List Bool:=ayt n l (2 ^ n.toNat)
end
section
section
variable {n:Int} {l:List Fd}
def okA (n:Int) (l:List Fd) (i a:Nat):Bool:=amn n l i && (List.range a).all fun b=>!(i.testBit b && amn n l (i ^^^ 2 ^ b))
section
variable {i a:Nat} (hv:c6 n l = 0) (hi:i < 2 ^ n.toNat) (ha:(a:Int) < n) (hx:i ^^^ 2 ^ a < 2 ^ n.toNat)
include hv hi ha hx
end
end
end
section
def agp (s:AS):Nat -> AS -> List AS
 | 0,_=>[]
 | n + 1,x=>if x = 0 then [] else x :: agp s n ((x - 1) &&& s)
def a96 (s:AS):List AS:=0 :: agp s (s.toNat + 1) s
def sub_zero (s:AS):sub 0 s:=da.2 fun i hi h=>by simp at h
def TsI (s:AS) (x:Nat × List AS × AS):Prop:=x.2.1 ++ agp s x.1 x.2.2 = a96 s /\ x.2.2.toNat < x.1 /\ x.2.1.length + x.1 = s.toNat + 2
def aa9 (l:List Fd) (p s:AS):Bool:=decide (sub p (clo l s))
def ayf (l:List Fd) (p x:AS):Bool:=(List.range 32).all fun a=>!(x.getLsbD a && aa9 l p (noA x a))
def b1l (l:List Fd) (p x r:AS):Prop:=sub r x /\ ∀ a,a < 32 -> x.getLsbD a = true -> r.getLsbD a = true \/ aa9 l p (noA x a) = false
def an8 (l:List Fd) (p x:AS):Bool:=aa9 l p x && ayf l p x
def akr (l:List Fd) (p:AS):AS:=orL ((a96 p).filter (an8 l p))
def aec {k:Nat}:∀ {ps:List AS} {s:AS},(ps.foldl (· ||| ·) s).getLsbD k = (s.getLsbD k || ps.any fun x=>x.getLsbD k)
 | [],s=>by simp
 | x :: ps,s=>by
  rw [List.foldl_cons,aec,b52,List.any_cons,Bool.or_assoc]
def b0h (l:List Fd) (p:AS) (i:Nat):AS:=orL (((a96 p).take i).filter (an8 l p))
end
section
def b2b (l:List Fd) (p x:AS) (a:Nat):Bool:=(List.range a).all fun b=>!(x.getLsbD b && aa9 l p (noA x b))
def ayw (i:Nat):List AS:=(List.range i).map (BitVec.ofNat 32)
def prQ (l:List Fd) (p x:AS):Bool:=decide (sub x p) && an8 l p x
def b0i (l:List Fd) (p:AS) (i:Nat):AS:=orL ((ayw i).filter (prQ l p))
section
variable {l:List Fd} {p:AS} {i:Nat}
end
def azc (l:List Fd) (p x:AS):Bool:=!aa9 l p x && decide (((clo l x &&& p) &&& ~~~x) &&& ~~~akr l p ≠ 0)
def avt (l:List Fd) (p:AS):Bool:=!(a96 p).any (azc l p)
def azq (n:Int) (l:List Fd) (p:AS):Int:=if c6 n l = 0 then (if sub p (ax n) then 0 else 1) else c6 n l
def b2d (n:Int) (l:List Fd) (p:AS):Bool:=decide (azq n l p = 0) && avt l p
end
section
section
variable {n:Int} {l:List Fd}
def avb (n:Int) (l:List Fd) (f:Fd):Bool:=decide (clo l f.lhs ≠ ax n) && decide (f.rhs &&& ~~~akr l (ax n) ≠ 0)
def b17 (n:Int) (l:List Fd) (i:Nat):List Fd:=((ah8 n l).take i).filter (avb n l)
def b0t (n:Int) (l:List Fd):List Fd:=(ah8 n l).filter (avb n l)
end
end
section
def b0c (l:List Fd) (pr k:AS):Bool:=(List.range 32).all fun a=>!k.getLsbD a || decide (sub (clo l (noA k a)) pr)
def az5 (n:Int) (l:List Fd):Bool:=(aoy n l).all (b0c l (orL (aoy n l)))
def b26 (n:Int) (l:List Fd):Bool:=decide (c6 n l = 0) && az5 n l
section
variable {l:List Fd} {pr k:AS}
def b2f (l:List Fd) (pr k r:AS):Prop:=sub r k /\ ∀ a,a < 32 -> k.getLsbD a = true -> r.getLsbD a = true \/ sub (clo l (noA k a)) pr
def b1h (l:List Fd) (pr k:AS) (s:Nat):Prop:=∀ j,j < s -> sub (BitVec.ofNat 32 j) k -> sub (clo l (BitVec.ofNat 32 j)) pr
end
section
variable {n:Int} {l:List Fd}
end
end
section
def mgR (l:List Fd) (s:AS):AS:=(l.filter fun f=>decide (f.lhs = s)).foldl (fun a f=>a ||| f.rhs) 0
def mgF (l:List Fd) (s:AS):Fd:=⟨s,mgR l s⟩
def azd (l:List Fd):List Fd:=(ord (l.map Fd.lhs)).map (mgF l)
end
section
open Go.Proofs
def b10 (t:AS) (l:List Fd):Prop:=∀ x ∈ l,sub x.rhs t
def ago (n:Int) (l:List Fd):List Fd:=azd (ah8 n l)
def pt (f:Fd):AS:=f.lhs ||| f.rhs
section
variable {n:Int} {l:List Fd}
def aoh (n:Int) (l:List Fd) (i:Nat):Bool:=((ago n l).take i).any fun f=>a5p n l (pt f)
def agt (n:Int) (l:List Fd):List AS:=(ago n l).map pt
def b01 (n:Int) (l:List Fd):List AS:=abw (if aoh n l (ago n l).length = true then agt n l else agt n l ++ [rkS n l (ax n)])
def b1r (n:Int) (l:List Fd):List AS:=if c6 n l = 0 then b01 n l else []
def b24 (n:Int) (l:List Fd):List AS:=if aoh n l (ago n l).length = true then agt n l else agt n l ++ [rkS n l (ax n)]
end
end
section
def Eqv (l k:List Fd):Prop:=∀ s,n7 l s <-> n7 k s
theorem Eqv.refl (l:List Fd):Eqv l l:=fun s=>Iff.rfl
theorem Eqv.trans {a b c:List Fd} (h:Eqv a b) (k:Eqv b c):Eqv a c:=fun s=>(h s).trans (k s)
theorem Eqv.clo {l k:List Fd} (h:Eqv l k) (s:AS):clo l s = clo k s :=
 o3 (a8m ((h _).2 se) a3q) (a8m ((h _).1 se) a3q)
end
section
def b18 (l:List Fd) (ps:List AS) (t:AS):Prop:=∀ p ∈ ps,sub (clo l (t &&& p) &&& p) t
def axn (l:List Fd) (s p:AS):AS:=s ||| (clo l (s &&& p) &&& p)
def b0m (l:List Fd) (ps:List AS) (s:AS):AS:=ps.foldl (axn l) s
def PrI (l:List Fd) (ps:List AS) (z s:AS):Prop:=sub z s /\ sub s (am8 l ps z)
def b2p (n:Int) (l:List Fd) (i:Nat):List AS:=((a9b (ax n)).take i).filter fun s=>!rj l s
end
section
def b0o (l:List Fd):Prop:=∀ f ∈ l,∀ i,i < 32 -> f.rhs.getLsbD i = true -> f.lhs.getLsbD i = false
section
variable {n:Int} {l:List Fd}
end
end
section
open Go.Proofs
def as8 {ps:List AS} {k:AS} (h:k ∈ ps):sub k (orL ps):=da.2 fun i hi hb=>by
 unfold orL;rw [aec,b44];exact .inr (b3z.2 ⟨k,h,hb⟩)
section
variable {n:Int} {l:List Fd}
end
end
section
def a5v (E:Int -> Int -> Prop) (R:Rw -> Prop) (s:AS):Prop:=∃ r,R r /\ ∀ i:Nat,i < r.length -> bc s (i:Int) = true -> E (r.getD i default) (i:Int)
section
variable {N:Nat} {p m:List Fd} {E:Int -> Int -> Prop} {R:Rw -> Prop}
def gt {s t:AS} (h:sub s t) {i:Nat} (hi:bc s (i:Int) = true):bc t (i:Int) = true:=by
 by_cases hl:i < 32
 · rw [ef hl] at hi ⊢
   exact da.1 h i hl hi
 rw [te b5o] at hi;cases hi
def amf (h:Mdl N p m E R) {a b:Rw} (ha:R a) (hb:R b) {f:Fd} (hf:f ∈ p) {s:AS} (hs:AgE E a b s):AgE E a b (d5 s f):=by
 unfold d5;split
 · rename_i hl
   have h2:=h.fd hf ha hb fun i hi hh=>hs i hi (gt hl hh);intro i hi hh;rw [a5s,b44] at hh
   rcases hh with hh | hh
   · exact hs i hi hh
   exact h2 i hi hh
 exact hs
def a8i (h:Mdl N p m E R) {a b:Rw} (ha:R a) (hb:R b):∀ {q:List Fd} {s:AS},(∀ f,f ∈ q -> f ∈ p) -> AgE E a b s -> AgE E a b (c3 q s)
 | [],s,_,hs=>hs
 | f :: q,s,hq,hs=>a8i h ha hb (q:=q) (s:=d5 s f) (fun g hg=>hq g (by simp [hg])) (amf h ha hb (hq f b5r) hs)
def ag1 (h:Mdl N p m E R) {a b:Rw} (ha:R a) (hb:R b):∀ {k:Nat} {s:AS},AgE E a b s -> AgE E a b (clF p k s)
 | 0,s,hs=>hs
 | k + 1,s,hs=>by
  unfold clF;split
  · exact hs
  exact ag1 h ha hb (a8i h ha hb (fun _ hf=>hf) hs)
def asa (h:Mdl N p m E R) {a b:Rw} (ha:R a) (hb:R b) {s:AS} (hs:AgE E a b s):AgE E a b (clo p s):=ag1 h ha hb hs
def a5v.mono {s t:AS} (h:a5v E R t) (hs:sub s t):a5v E R s:=by
 obtain ⟨r,h1,h2⟩:=h;exact ⟨r,h1,fun i hi hh=>h2 i hi (gt hs hh)⟩
def abh (h:Mdl N p m E R) {r:Rw} (hr:R r) {z q c:AS} (hz:∀ i:Nat,i < r.length -> bc z (i:Int) = true -> E (r.getD i default) (i:Int)) (hq:a5v E R q) (hc1:sub c (clo p (z &&& q))) (hc2:sub c q) :
 ∀ i:Nat,i < r.length -> bc (z ||| c) (i:Int) = true -> E (r.getD i default) (i:Int):=by
 obtain ⟨b,hb,hbq⟩:=hq;have hl:r.length = b.length:=(h.len hr).trans (h.len hb).symm;have hag:AgE E r b (z &&& q):=fun i hi hh=>h.trans (hz i hi (gt a7x hh)) (h.symm (hbq i b5o (gt aia hh)));have hcl:=asa h hr hb hag;intro i hi hh;rw [a5s,b44] at hh
 rcases hh with hh | hh
 · exact hz i hi hh
 exact h.trans (hcl i hi (gt hc1 hh)) (hbq i b5o (gt hc2 hh))
end
section
variable {n:Int} {p m:List Fd} {ps:List AS}
section
variable {E:Int -> Int -> Prop}
def a87 (h0:0 <= n) {R:Rw -> Prop} (h:Mdl n.toNat p m E R) (hl:∀ r,r ∈ ah n ps -> R r) {q:AS} (hq:q ∈ ps):a5v E R q:=by
 obtain ⟨i,hi,e⟩:=o4 hq;refine ⟨stR n i q,hl _ ?_,fun c hc hh=>?_⟩
 · unfold ah
   exact b3k.2 ⟨i,b3i.2 hi,by rw [e]⟩
 rw [oq] at hc;rw [wu hc];unfold stV;rw [if_pos hh];exact h.refl _
def aad {c:Nat} (hc:c < n.toNat):(bg n).getD c default = (c:Int):=by
 unfold bg;rw [b2t,b39,b3v hc];rfl
def amr {i:Nat} (h16:n <= 16) (hi:i < n.toNat):bc (ax n) (i:Int) = true:=by
 rw [ef b5o];unfold ax;rw [b48 b5o,kf _ _ b5o];exact decide_eq_true hi
def aje (h16:n <= 16) {R:Rw -> Prop} (h:Mdl n.toNat p m E R) (hf:a5v E R (ax n)):R (bg n):=by
 obtain ⟨r,hr,hh⟩:=hf;have hl:=h.len hr;refine h.cong hr (by rw [qw,hl]) fun i hi=>?_;rw [aad b5o];exact hh i hi (amr h16 b5o)
end
end
end
section
def lvE (n:Int) (ps:List AS):Int:=if n < 0 \/ 8 < n then 7 else if 64 < ps.length then 3 else if ps.length = 0 \/ ¬ orL ps = ax n then 1 else 0
section
variable {n:Int} {ps:List AS} {p m:List Fd}
def a91 (h:n < 0 \/ 8 < n):lvE n ps = 7:=if_pos h
def aok (h:¬ (n < 0 \/ 8 < n)) (h2:64 < ps.length):lvE n ps = 3:=by unfold lvE;rw [if_neg h,if_pos h2]
def a97 (h:¬ (n < 0 \/ 8 < n)) (h2:¬ 64 < ps.length) (h3:ps.length = 0 \/ ¬ orL ps = ax n):lvE n ps = 1:=by unfold lvE;rw [if_neg h,if_neg h2,if_pos h3]
def aoz (h:¬ (n < 0 \/ 8 < n)) (h2:¬ 64 < ps.length) (h3:¬ (ps.length = 0 \/ ¬ orL ps = ax n)):lvE n ps = 0:=by unfold lvE;rw [if_neg h,if_neg h2,if_neg h3]
def lp (h:lvE n ps = 0):0 <= n /\ n <= 8 /\ ps.length <= 64 /\ 0 < ps.length /\ orL ps = ax n:=by
 unfold lvE at h;split at h
 · exact absurd h b5t
 split at h
 · exact absurd h b5t
 split at h
 · exact absurd h b5t
 rename_i h1 h2 h3;refine ⟨by omega,by omega,by omega,by omega, ?_⟩;apply Classical.byContradiction;intro e;exact h3 (.inr e)
def lsT (n:Int) (ps:List AS) (p m:List Fd):List St × (Int × List Rw) × Int:=fk FU n (ae (ah n ps)) p m
def lsC (n:Int) (ps:List AS) (p m:List Fd):Int:=if lvE n ps = 0 then (if bi n p m = 0 then (lsT n ps p m).2.2 else bi n p m) else lvE n ps
def lsB (n:Int) (ps:List AS) (p m:List Fd):Bool:=decide (lsC n ps p m = 0) && (lsT n ps p m).2.1.2.any fun r=>decide (r = bg n)
def ay4 (h:¬ lvE n ps = 0):lsC n ps p m = lvE n ps /\ lsB n ps p m = false:=by
 have e:lsC n ps p m = lvE n ps:=if_neg h;exact ⟨e,by unfold lsB;rw [e,decide_eq_false h];rfl⟩
def axm (h:lvE n ps = 0) (h2:¬ bi n p m = 0):lsC n ps p m = bi n p m /\ lsB n ps p m = false:=by
 have e:lsC n ps p m = bi n p m:=(if_pos h).trans (if_neg h2);exact ⟨e,by unfold lsB;rw [e,decide_eq_false h2];rfl⟩
def a56 (h:lvE n ps = 0) (h2:bi n p m = 0):lsC n ps p m = (lsT n ps p m).2.2:=(if_pos h).trans (if_pos h2)
def w9 (h:lsC n ps p m = 0):lvE n ps = 0 /\ bi n p m = 0:=by
 unfold lsC at h;split at h
 · rename_i e
   split at h
   · rename_i e2;exact ⟨e,e2⟩
   rename_i e2;exact absurd h e2
 rename_i e;exact absurd h e
def acj (h:lvE n ps = 0) {q:AS} (hq:q ∈ ps):sub q (ax n):=by
 rw [<- (lp h).2.2.2.2];exact as8 hq
def aby (h:lvE n ps = 0):dz n ps = (n,ae (ah n ps),0):=by
 obtain ⟨h0,h8,h64,_⟩:=lp h;exact a28 b5o b5o fun j hj=>(ah9 h0 b5o).1 (acj h (dc hj))
def arf (h:lvE n ps = 0) (hb:bi n p [] = 0):lsC n ps p [] = 0 /\ (lsB n ps p [] = true <-> LR n.toNat p [] (ah n ps) (bg n)):=by
 obtain ⟨h0,h8,h64,_⟩:=lp h
 rcases zq (m:=[]) h64 hb with ⟨_,e⟩ | ⟨sts,lend,e,h1,_⟩
 · exact absurd rfl e
 have ec:lsC n ps p [] = 0:=by rw [a56 h hb];unfold lsT;rw [e]
 refine ⟨ec, ?_⟩;unfold lsB lsT;rw [ec,e,decide_eq_true rfl,b4o];show (lend.any fun r=>decide (r = bg n)) = true <-> _;rw [ut,decide_eq_true_iff,h1]
def b1w (n:Int) (p:List Fd) (ps:List AS):Bool:=lsB n ps p [] && !ps.any (rj p)
end
end
section
abbrev tbC (a:Int × List Rw):Nat -> PV:=fun j=>[.raw (.int .i64 a.1),rl a.2].getD j .any
def lcR (n:Int) (ps:List AS) (p m:List Fd):(Int × List Rw) × List St × (Int × List Rw) × Int :=
 if lvE n ps = 0 then (if bi n p m = 0 then ((n,ae (ah n ps)),(lsT n ps p m).1,(lsT n ps p m).2.1,(lsT n ps p m).2.2) else ((0,[]),[],(0,[]),bi n p m)) else ((0,[]),[],(0,[]),lvE n ps)
section
variable {n:Int} {ps:List AS} {p m:List Fd} {l lend:List Rw}
def axo (h:¬ lvE n ps = 0):lcR n ps p m = ((0,[]),[],(0,[]),lvE n ps):=if_neg h
def axc (h:lvE n ps = 0) (h2:¬ bi n p m = 0):lcR n ps p m = ((0,[]),[],(0,[]),bi n p m):=(if_pos h).trans (if_neg h2)
def aga (h:lvE n ps = 0) (h2:bi n p m = 0):lcR n ps p m = ((n,ae (ah n ps)),(lsT n ps p m).1,(lsT n ps p m).2.1,(lsT n ps p m).2.2):=(if_pos h).trans (if_pos h2)
def gp:(lcR n ps p m).2.2.2 = lsC n ps p m:=by
 unfold lcR lsC;split
 · split <;> rfl
 rfl
def ao6 (h:(lcR n ps p m).2.2.2 = 0):((lcR n ps p m).2.2.1.2.any fun r=>decide (r = bg n)) = lsB n ps p m:=by
 have hc:=h;rw [gp] at hc;obtain ⟨h1,h2⟩:=w9 hc;unfold lsB;rw [decide_eq_true hc,b4o,aga h1 h2]
def amx (h:¬ (lcR n ps p m).2.2.2 = 0):lsB n ps p m = false:=by
 rw [gp] at h;unfold lsB;rw [decide_eq_false h];rfl
def at7:(bif decide ((lcR n ps p m).2.2.2 = 0) then ((lcR n ps p m).2.2.1.2.any fun r=>decide (r = bg n)) else false) = lsB n ps p m:=by
 by_cases h:(lcR n ps p m).2.2.2 = 0
 · rw [decide_eq_true h,cond_true,ao6 h]
 rw [decide_eq_false h,cond_false,amx h]
def az0 (h:lcR n ps p m = lcR n ps p m) (h2:(lcR n ps p m).2.2.2 = 0):0 <= n /\ n <= 8:=by
 rw [gp] at h2;obtain ⟨h1,_⟩:=w9 h2;exact ⟨(lp h1).1,(lp h1).2.1⟩
def ahg:∀ {sts:List St} {l:List Rw} {i:Nat},TrZ n p m lend l sts -> i <= sts.length -> TrZ n p m lend ((trL n p m l sts).getD i default) (sts.drop i)
 | [],l,0,h,_=>h
 | s :: r,l,0,h,_=>h
 | s :: r,l,i + 1,h,hi=>by
  obtain ⟨_,_,l',e,_,h⟩:=h;unfold trL;rw [e];exact ahg (i:=i) h (by simpa using hi)
def a0e:∀ {sts:List St} {l:List Rw} {i:Nat},i < sts.length -> (trL n p m l sts).getD (i + 1) default = (bu n ((trL n p m l sts).getD i default) p m (sts.getD i default)).2.1
 | [],l,i,hi=>by simp at hi
 | s :: r,l,0,_=>by
  unfold trL
  cases r with
  | nil=>rfl
  | cons s2 r2=>rfl
 | s :: r,l,i + 1,hi=>by
  unfold trL;exact a0e (sts:=r) (i:=i) (by simpa using hi)
section
variable {sts:List St}
def a6a:(trL n p m l sts).getD 0 default = l:=by cases sts <;> rfl
def gi (n:Int) (p m:List Fd) (l:List Rw) (sts:List St):List (Int × List Rw):=(trL n p m l sts).map fun t=>(n,t)
def t8:(gi n p m l sts).length = sts.length + 1:=by unfold gi;rw [b3l,a7h]
def a0r {i:Nat} (hi:i <= sts.length):(gi n p m l sts).getD i default = (n,(trL n p m l sts).getD i default):=by
 unfold gi;have:i < (trL n p m l sts).length:=by rw [a7h];omega
 rw [b2t,b39,b2s this,b2t,b2s this];rfl
def a7n {i:Nat} (hi:i < sts.length):(gi n p m l sts).take (i + 1 + 1) = (gi n p m l sts).take (i + 1) ++ [(n,(bu n ((trL n p m l sts).getD i default) p m (sts.getD i default)).2.1)]:=by
 rw [bq (by rw [t8];omega),a0r b5o,a0e hi]
def aav:(gi n p m l sts).take 1 = [(n,l)]:=by
 unfold gi;cases sts <;> rfl
def rcR (n:Int) (ps:List AS) (p m:List Fd):List St × List (Int × List Rw) × Int :=
 if lsC n ps p m = 0 then ((lsT n ps p m).1,gi n p m (ae (ah n ps)) (lsT n ps p m).1,0) else ([],[],lsC n ps p m)
def agz {c:Int} (h:lsC n ps p m = c) (h2:¬ c = 0):rcR n ps p m = ([],[],c):=by
 unfold rcR;rw [h,if_neg h2]
def a16 (h:lsC n ps p m = 0):rcR n ps p m = ((lsT n ps p m).1,gi n p m (ae (ah n ps)) (lsT n ps p m).1,0):=if_pos h
def aa4 (h:lvE n ps = 0) (hb:bi n p m = 0) (hc:(lsT n ps p m).2.2 = 0):∃ sts lend,lsT n ps p m = (sts,(n,lend),0) /\ TrZ n p m lend (ae (ah n ps)) sts /\ tok n lend = true /\ ((∃ t,t ∈ trL n p m (ae (ah n ps)) sts /\ bg n ∈ t) <-> bg n ∈ lend):=by
 rcases zq (lp h).2.2.1 hb with ⟨e,_⟩ | ⟨sts,lend,e,h1,h2,h3,h4⟩
 · unfold lsT at hc
   rw [e] at hc;exact absurd hc b5t
 exact ⟨sts,lend,e,h2,h3,h4⟩
def al6 {p m:List Fd}:∀ (F:Nat) (n:Int) (l:List Rw) (acc:List St),(f7 F n l p m acc).1.length <= acc.length + F:=by
 intro F
 induction F with
 | zero=>intro n l acc;unfold f7;simp
 | succ F ih =>
  intro n l acc;unfold f7;split
  · simp
  rename_i s _;split;rename_i n' l' e _;split
  · have:=ih n' l' (acc ++ [s])
    simp only [b3e,b4s] at this;omega
  simp
def a6z (h:lvE n ps = 0) (hb:bi n p m = 0):(lsT n ps p m).1.length <= FU:=by
 obtain ⟨h0,h8,h64,_⟩:=lp h;have hT:=a4p (ps:=ps) h0 b5o h64;have hck:ckE n (ae (ah n ps)) p m = 0:=(if_pos hT).trans hb;unfold lsT;rw [p6 hck];have:=al6 (p:=p) (m:=m) FU n (ae (ah n ps)) [];simpa using this
def fg (n:Int) (t:List Rw):Bool:=t.any fun r=>decide (r = bg n)
def prX (n:Int) (ps:List AS) (p m:List Fd):Int:=idx (fun a:Int × List Rw=>fg n a.2) (rcR n ps p m).2.1
def prC (n:Int) (ps:List AS) (p m:List Fd):Int:=if (rcR n ps p m).2.2 = 0 then (if prX n ps p m < 0 then 11 else 0) else (rcR n ps p m).2.2
def prS (n:Int) (ps:List AS) (p m:List Fd):List St:=if (rcR n ps p m).2.2 = 0 then (if prX n ps p m < 0 then [] else (rcR n ps p m).1.take (prX n ps p m).toNat) else []
def ou:(rcR n ps p m).2.2 = lsC n ps p m:=by
 unfold rcR;split
 · rename_i h;exact h.symm
 rfl
def ajq:¬ lsC n ps p m = 11:=by
 intro h;unfold lsC at h;split at h
 · rename_i hv
   split at h
   · rename_i hb
     rcases zq (lp hv).2.2.1 hb with ⟨e,_⟩ | ⟨sts,lend,e,_⟩
     · unfold lsT at h;rw [e] at h;exact absurd h b5t
     unfold lsT at h;rw [e] at h;exact absurd (show (0:Int) = 11 from h) b5t
   unfold bi c6 at h
   (repeat' split at h) <;> omega
 unfold lvE at h
 (repeat' split at h) <;> omega
def af5 (hc:lsC n ps p m = 0):(0 <= prX n ps p m) <-> lsB n ps p m = true:=by
 obtain ⟨h1,h2⟩:=w9 hc;have hc2:(lsT n ps p m).2.2 = 0:=(a56 h1 h2).symm.trans hc;obtain ⟨sts,lend,e,_,_,h3⟩:=aa4 h1 h2 hc2
 have e1:lsB n ps p m = decide (bg n ∈ lend):=by
  unfold lsB;rw [decide_eq_true hc,b4o,e];exact ut
 have e2:(rcR n ps p m).2.1 = gi n p m (ae (ah n ps)) sts:=by rw [a16 hc,e]
 have e3:(gi n p m (ae (ah n ps)) sts).any (fun a=>fg n a.2) = decide (0 <= prX n ps p m):=by
  unfold prX;rw [e2];exact ab4.symm
 rw [e1,decide_eq_true_iff,<- h3,<- decide_eq_true_iff (p:=0 <= prX n ps p m),<- e3,b3z];unfold gi fg;constructor
 · rintro ⟨x,hx,h⟩
   obtain ⟨t,ht,rfl⟩:=b3k.1 hx;exact ⟨t,ht,by rw [ut] at h;exact of_decide_eq_true h⟩
 rintro ⟨t,ht,h⟩;exact ⟨(n,t),b3k.2 ⟨t,ht,rfl⟩,by rw [ut];exact decide_eq_true h⟩
def axx (h:prC n ps p m = 11):lsB n ps p m = false /\ lsC n ps p m = 0:=by
 unfold prC at h;rw [ou] at h;split at h
 · rename_i hc
   split at h
   · rename_i hx
     refine ⟨?_,hc⟩;rw [b31];intro e;have:=(af5 hc).2 e;omega
   exact absurd h b5t
 exact absurd h ajq
def ayb (h:¬ prC n ps p m = 11):decide (prC n ps p m = 0) = lsB n ps p m /\ prC n ps p m = lsC n ps p m:=by
 unfold prC at h ⊢;rw [ou] at h ⊢;split at h
 · rename_i hc
   split at h
   · exact absurd rfl h
   rename_i hx;rw [if_pos hc,if_neg hx,hc];refine ⟨?_,rfl⟩;have:=(af5 hc).1 b5o;rw [this];rfl
 rename_i hc;rw [if_neg hc];refine ⟨?_,rfl⟩;unfold lsB;rw [decide_eq_false hc];rfl
end
end
end
end Go.Hx

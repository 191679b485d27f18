/- A part of the proof: Cc1 Cc2 Cc3 Ls1 Cs24 Cs26 Cs27 Cs28 Cs30 Cs31 Cs32 Cs33 Cs34 Cs35 Cs36 Cz1m Cs37 Cs40 Ls2 Ls3 Ls5 W0. -/
import Derived.Test.YteklilhbjjofbaaGreatDoorLd24
set_option linter.all false
namespace Go.Hx
section
def AgE (E:Int -> Int -> Prop) (a b:Rw) (s:AS):Prop:=∀ i:Nat,i < a.length -> bi s (i:Int) = true -> E (a.getD i default) (b.getD i default)
structure Mdl (N:Nat) (p m:List Fd) (E:Int -> Int -> Prop) (R:Rw -> Prop):Prop where
 refl:∀ x,E x x
 symm:∀ {x y},E x y -> E y x
 trans:∀ {x y z},E x y -> E y z -> E x z
 len:∀ {r},R r -> r.length = N
 cong:∀ {r r':Rw},R r -> r'.length = r.length -> (∀ i,i < r.length -> E (r.getD i default) (r'.getD i default)) -> R r'
 fd:∀ {x},x ∈ p -> ∀ {a b},R a -> R b -> AgE E a b x.lhs -> AgE E a b x.rhs
 mv:∀ {x},x ∈ m -> ∀ {a b},R a -> R b -> AgE E a b x.lhs -> R (d7 a b (x.lhs ||| x.rhs))
def LE (N:Nat) (p m:List Fd) (l:List Rw) (x y:Int):Prop:=∀ E R,Mdl N p m E R -> (∀ r,r ∈ l -> R r) -> E x y
def LR (N:Nat) (p m:List Fd) (l:List Rw) (r:Rw):Prop:=∀ E R,Mdl N p m E R -> (∀ r,r ∈ l -> R r) -> R r
def asg (N:Nat) (p m:List Fd):Mdl N p m (fun _ _=>True) (fun r=>r.length = N) :=
 ⟨fun _=>trivial,fun _=>trivial,fun _ _=>trivial,fun h=>h,fun h e _=>e.trans h,fun _ _ _ _ _ _ _ _ _=>trivial,fun _ a b _ hb _=>(jb _ _ _).trans hb⟩
def a2i {N:Nat} {p m:List Fd} {l:List Rw} (hl:∀ r,r ∈ l -> r.length = N):Mdl N p m (LE N p m l) (LR N p m l) where
 refl x:=fun E R h _=>h.refl x
 symm h:=fun E R k kl=>k.symm (h E R k kl)
 trans h h2:=fun E R k kl=>k.trans (h E R k kl) (h2 E R k kl)
 len h:=h _ _ (asg N p m) hl
 cong h e h2:=fun E R k kl=>k.cong (h E R k kl) e fun i hi=>h2 i hi E R k kl
 fd hx _ _ ha hb hl:=fun i hi hs E R k kl=>k.fd hx (ha E R k kl) (hb E R k kl) (fun j hj hh=>hl j hj hh E R k kl) i hi hs
 mv hx _ _ ha hb hl:=fun E R k kl=>k.mv hx (ha E R k kl) (hb E R k kl) fun j hj hh=>hl j hj hh E R k kl
structure Ch (N:Nat) (p m:List Fd) (l0 l:List Rw) (σ:Int -> Int):Prop where
 rows:∀ r,r ∈ l -> LR N p m l0 r
 sym:∀ s,LE N p m l0 s (σ s)
 img:∀ r,r ∈ l0 -> r.map σ ∈ l
 fix:∀ r,r ∈ l -> ∀ z,z ∈ r -> σ z = z
 le:∀ s,σ s <= s
section
variable {N:Nat} {p m:List Fd} {l0 l l':List Rw} {σ σ':Int -> Int} {n:Int}
theorem Ch.start:Ch N p m l0 l0 id:=⟨fun r hr E R _ hl=>hl r hr,fun s E R k _=>k.refl s,fun r hr=>by rw [List.map_id];exact hr,fun _ _ _ _=>rfl,fun s=>Int.le_refl s⟩
theorem Ch.congr (h:Ch N p m l0 l σ) (e:∀ r,r ∈ l' <-> r ∈ l):Ch N p m l0 l' σ :=
 ⟨fun r hr=>h.rows r ((e r).1 hr),h.sym,fun r hr=>(e _).2 (h.img r hr),fun r hr=>h.fix r ((e r).1 hr),h.le⟩
def mt (hi lo z:Int):Int:=if z = hi then lo else z
section
variable {f:Int -> Int}
def gh {r:Rw} {i:Nat} (h:i < r.length):(r.map f).getD i default = f (r.getD i default):=by
 rw [b5c,b5s,b5b h,b5c,b5b h];rfl
theorem Ch.sub (hl0:∀ r,r ∈ l0 -> r.length = N) (h:Ch N p m l0 l σ) {hi lo:Int} (hE:LE N p m l0 hi lo) (hle:lo <= hi) (hin:∃ r,r ∈ l /\ lo ∈ r):Ch N p m l0 (l.map fun r=>r.map (mt hi lo)) (fun s=>mt hi lo (σ s)):=by
 have hm:=a2i (p:=p) (m:=m) hl0
 have hs:∀ z,LE N p m l0 z (mt hi lo z):=fun z=>by
  unfold mt;split
  · rename_i e;rw [e];exact hE
  exact hm.refl z
 refine ⟨fun r hr=>?_,fun s=>hm.trans (h.sym s) (hs _),fun r hr=>?_,fun r hr z hz=>?_,fun s=>?_⟩
 · obtain ⟨r0,h0,rfl⟩:=b5w.1 hr
   exact hm.cong (h.rows r0 h0) b8l fun i hi=>by rw [gh hi];exact hs _
 · refine b5w.2 ⟨_,h.img r hr, ?_⟩
   rw [List.map_map];rfl
 · obtain ⟨r0,h0,rfl⟩:=b5w.1 hr
   obtain ⟨y,hy,rfl⟩:=b5w.1 hz;obtain ⟨r1,h1,h2⟩:=hin;have e1:=h.fix r0 h0 y hy;have e2:=h.fix r1 h1 lo h2;by_cases e:y = hi
   · have e3:mt hi lo y = lo:=if_pos e
     show mt hi lo (σ (mt hi lo y)) = mt hi lo y;rw [e3,e2];unfold mt;split <;> rfl
   have e3:mt hi lo y = y:=if_neg e;show mt hi lo (σ (mt hi lo y)) = mt hi lo y;rw [e3,e1,e3]
 have h1:=h.le s
 have h2:mt hi lo (σ s) <= σ s:=by
  unfold mt;split <;> omega
 exact Int.le_trans h2 h1
def aio {M:Nat -> Nat -> Int} {a b j:Nat}:d4 l (eqM M a b j) = (d4 l M).map fun r=>r.map (mt (hiI (M a j) (M b j)) (loI (M a j) (M b j))):=by
 unfold d4;rw [List.map_map];refine b76 fun i _=>?_;show _ = List.map _ (List.map _ _);rw [List.map_map];rfl
def am2 {M:Nat -> Nat -> Int} {a j:Nat} (ha:a < l.length) (hj:j < (l.getD a default).length):∃ r,r ∈ d4 l M /\ M a j ∈ r :=
 a51.2 ⟨a,j,ha,hj,rfl⟩
theorem Ch.eqMs (hl0:∀ r,r ∈ l0 -> r.length = N) {a b:Nat} (ha:a < l.length) (hb:b < l.length):∀ {js:List Nat} {M:Nat -> Nat -> Int} {σ:Int -> Int},Ch N p m l0 (d4 l M) σ -> (∀ j,j ∈ js -> j < (l.getD a default).length /\ j < (l.getD b default).length /\ LE N p m l0 (M a j) (M b j)) ->
 ∃ σ',Ch N p m l0 (d4 l (eqMs M a b js)) σ'
 | [],M,σ,h,_=>⟨σ,h⟩
 | j :: js,M,σ,h,hj=>by
  obtain ⟨h1,h2,h3⟩:=hj j b8l;have hm:=a2i (p:=p) (m:=m) hl0;have hlo:loI (M a j) (M b j) <= hiI (M a j) (M b j):=by unfold loI hiI;split <;> split <;> omega
  have hE:LE N p m l0 (hiI (M a j) (M b j)) (loI (M a j) (M b j)):=by
   rcases aqx (M a j) (M b j) with e | e <;> rcases aj2 (M a j) (M b j) with f | f <;> rw [e,f]
   · exact hm.refl _
   · exact h3
   · exact hm.symm h3
   exact hm.refl _
  have hin:∃ r,r ∈ d4 l M /\ loI (M a j) (M b j) ∈ r:=by
   rcases aj2 (M a j) (M b j) with f | f <;> rw [f]
   · exact am2 ha h1
   exact am2 hb h2
  have hq:=h.sub hl0 hE hlo hin;rw [<- aio] at hq
  have hs:∀ z,LE N p m l0 z (if z = hiI (M a j) (M b j) then loI (M a j) (M b j) else z):=fun z=>by
   split
   · rename_i e;rw [e];exact hE
   exact hm.refl z
  exact Ch.eqMs hl0 ha hb (js:=js) hq fun k hk=>by
   obtain ⟨h4,h5,h6⟩:=hj k (by simp [hk]);exact ⟨h4,h5,hm.trans (hm.symm (hs (M a k))) (hm.trans h6 (hs (M b k)))⟩
def afx:d4 l (bf l) = l:=by
 refine jw (j3 _ _) fun i hi=>?_;rw [j3] at hi;rw [a9c hi];refine jw b8l fun k hk=>?_;simp only [b64,b8e] at hk;rw [b5c,b5s,b6d hk];rfl
def aj8 (hl0:∀ r,r ∈ l0 -> r.length = N) {a b:Rw} {s:AS} (h:ip a b s = true):AgE (LE N p m l0) a b s:=fun i hi hs=>by
 rw [of_decide_eq_true h i hi hs];exact (a2i hl0).refl _
def du {α:Type} [Inhabited α] {l:List α} {i:Nat} (h:i < l.length):l.getD i default ∈ l:=by
 rw [b5c,b5b h];exact b5l h
def aow {a b:Rw} {s:AS} (hl:a.length = b.length) {z:Int} (hz:z ∈ d7 a b s):z ∈ a \/ z ∈ b:=by
 unfold d7 at hz;rw [b5w] at hz;obtain ⟨i,hi,rfl⟩:=hz;have hi:=b5r.1 hi;split
 · exact .inl (du b8i)
 exact .inr (du hi)
def aon (l:List Rw) (p m:List Fd) (s:St):Prop:=s.2.2.1 < l.length /\ s.2.2.2 < l.length /\ (s.1 = false -> s.2.1 < p.length) /\ (s.1 = true -> s.2.1 < m.length)
theorem Ch.app (hl0:∀ r,r ∈ l0 -> r.length = n.toNat) (hT:tok n l = true) (hp:p.all (inU n) = true) (h:Ch n.toNat p m l0 l σ) {s:St} (hs:aon l p m s) (he:(ci n l p m s).2.2 = 0) :
 (ci n l p m s).1 = n /\ ∃ σ',Ch n.toNat p m l0 (ci n l p m s).2.1 σ':=by
 obtain ⟨mu,i,a,b⟩:=s;obtain ⟨ha,hb,hf,hv⟩:=hs;obtain ⟨h0,h1,h2,h3⟩:=eu hT;have ha:a < l.length:=ha;have hb:b < l.length:=hb;have hra:=h3 a ha;have hrb:=h3 b hb
 cases mu with
 | false =>
  have hi:i < p.length:=hf rfl;have e0:ci n l p m (false,i,a,b) = fdE n l a b (p.getD i default):=rfl;rw [e0] at he ⊢;by_cases hg:ip (l.getD a default) (l.getD b default) (p.getD i default).lhs = true
  · have e1:fdE n l a b (p.getD i default) = (n,ai (d4 l (Go.Hx.eqMs (bf l) a b (b7 (p.getD i default).rhs))),0):=if_pos hg
    rw [e1];refine ⟨rfl, ?_⟩;have hu:inU n (p.getD i default) = true:=b5u.1 hp _ (du hi);have hm:=a2i (p:=p) (m:=m) hl0;have hR:=hm.fd (du hi) (h.rows _ (du ha)) (h.rows _ (du hb)) (aj8 hl0 hg)
    obtain ⟨σ',hσ⟩:=Ch.eqMs (p:=p) (m:=m) hl0 ha hb (js:=b7 (p.getD i default).rhs) (M:=bf l) (σ:=σ) (by rw [afx];exact h) fun j hj=>by
     have h4:=a2d h0 h1 hu hj;have h5:=vn.1 hj;refine ⟨Nat.lt_of_lt_of_eq h4 hra.symm,Nat.lt_of_lt_of_eq h4 hrb.symm,hR j (Nat.lt_of_lt_of_eq h4 hra.symm) (by rw [ef h5.1];exact h5.2)⟩
    exact ⟨σ',hσ.congr fun r=>ec⟩
  have e1:fdE n l a b (p.getD i default) = (0,[],1):=if_neg hg;rw [e1] at he;exact absurd he b8n
 | true =>
  have hi:i < m.length:=hv rfl;have e0:ci n l p m (true,i,a,b) = mvE n l a b (m.getD i default):=rfl;rw [e0] at he ⊢;by_cases hg:ip (l.getD a default) (l.getD b default) (m.getD i default).lhs = true
  · have e1:mvE n l a b (m.getD i default) = pj n l (d7 (l.getD a default) (l.getD b default) ((m.getD i default).lhs ||| (m.getD i default).rhs)):=if_pos hg
    rw [e1] at he ⊢;by_cases hbig:256 < (ai (l ++ [d7 (l.getD a default) (l.getD b default) ((m.getD i default).lhs ||| (m.getD i default).rhs)])).length
    · have e2:pj n l (d7 (l.getD a default) (l.getD b default) ((m.getD i default).lhs ||| (m.getD i default).rhs)) = (0,[],3):=if_pos hbig
      rw [e2] at he;exact absurd he b8n
    have e2:pj n l (d7 (l.getD a default) (l.getD b default) ((m.getD i default).lhs ||| (m.getD i default).rhs)) = (n,ai (l ++ [d7 (l.getD a default) (l.getD b default) ((m.getD i default).lhs ||| (m.getD i default).rhs)]),0):=if_neg hbig;rw [e2];refine ⟨rfl,σ, ?_⟩;have hm:=a2i (p:=p) (m:=m) hl0;have hR:=hm.mv (du hi) (h.rows _ (du ha)) (h.rows _ (du hb)) (aj8 hl0 hg);refine ⟨fun r hr=>?_,h.sym,fun r hr=>ec.2 (b5o _ (h.img r hr)),fun r hr z hz=>?_,h.le⟩
    · rcases b60.1 (ec.1 hr) with h4 | h4
      · exact h.rows r h4
      rw [b61.1 h4];exact hR
    rcases b60.1 (ec.1 hr) with h4 | h4
    · exact h.fix r h4 z hz
    rw [b61.1 h4] at hz
    rcases aow b8i hz with h5 | h5
    · exact h.fix _ (du ha) z h5
    exact h.fix _ (du hb) z h5
  have e1:mvE n l a b (m.getD i default) = (0,[],1):=if_neg hg;rw [e1] at he;exact absurd he b8n
def a6o {P:Nat -> Nat -> Nat -> Bool} {I L:Nat} (h:eg P I L = none) {i a b:Nat} (hi:i < I) (ha:a < L) (hb:b < L):P i a b = false:=by
 unfold eg at h;rw [b7x] at h;have h1:=h i (b5r.2 hi);rw [b7x] at h1;have h2:=h1 a (b5r.2 ha);rw [Option.map_eq_none_iff,List.find?_eq_none] at h2;exact b5m.2 (h2 b (b5r.2 hb))
def akq (h:dc l p m = none):(∀ i,i < p.length -> ∀ a,a < l.length -> ∀ b,b < l.length -> dm l (p.getD i default) a b = false) /\ ∀ i,i < m.length -> ∀ a,a < l.length -> ∀ b,b < l.length -> dt l (m.getD i default) a b = false:=by
 unfold dc at h;split at h
 · cases h
 rename_i e;rw [Option.map_eq_none_iff] at h;exact ⟨fun i hi a ha b hb=>a6o (P:=fun i a b=>dm l (p.getD i default) a b) e hi ha hb,fun i hi a ha b hb=>a6o (P:=fun i a b=>dt l (m.getD i default) a b) h hi ha hb⟩
def sd {α:Type} [Inhabited α] {l:List α} {x:α} (h:x ∈ l):∃ i,i < l.length /\ l.getD i default = x:=by
 obtain ⟨i,hi,rfl⟩:=b5z h;exact ⟨i,hi,by rw [b5c,b5b hi];rfl⟩
def aq4 {a b:Rw} {s:AS} (hl:a.length = b.length):d7 (a.map f) (b.map f) s = (d7 a b s).map f:=by
 unfold d7;rw [List.map_map,b64];refine b76 fun i hi=>?_;have hi:=b5r.1 hi;show _ = f (if bi s (i:Int) = true then a.getD i default else b.getD i default);split
 · rw [gh b8i]
 rw [gh hi]
theorem Ch.mdl (hT:tok n l = true) (hn:dc l p m = none) (σ:Int -> Int):Mdl n.toNat p m (fun x y=>σ x = σ y) (fun r=>r.length = n.toNat /\ r.map σ ∈ l):=by
 obtain ⟨hF,hM⟩:=akq hn;refine ⟨fun _=>rfl,fun h=>h.symm,fun h k=>h.trans k,fun h=>h.1,fun {r r'} h e h2=>⟨e.trans h.1, ?_⟩,fun {x} hx {a b} ha hb hl i hi hs=>?_,fun {x} hx {a b} ha hb hl=>⟨(jb _ _ _).trans hb.1, ?_⟩⟩
 · have:r'.map σ = r.map σ:=by
    refine jw (by simp [e]) fun i hi=>?_;rw [b64] at hi;rw [gh hi,gh b8i];exact (h2 i b8i).symm
   rw [this];exact h.2
 · obtain ⟨k,hk,rfl⟩:=sd hx
   obtain ⟨ia,hia,ea⟩:=sd ha.2;obtain ⟨ib,hib,eb⟩:=sd hb.2;have h1:=hF k hk ia hia ib hib;unfold dm at h1;rw [ea,eb,xh (fun j hj hs=>by rw [b64] at hj;rw [gh hj,gh (by rw [hb.1,<- ha.1];exact hj)];exact hl j hj hs),b7w,Bool.not_eq_false'] at h1;have h2:=of_decide_eq_true h1 i (by rw [b64];exact hi) hs;rw [gh hi,gh (by rw [hb.1,<- ha.1];exact hi)] at h2;exact h2
 obtain ⟨k,hk,rfl⟩:=sd hx;obtain ⟨ia,hia,ea⟩:=sd ha.2;obtain ⟨ib,hib,eb⟩:=sd hb.2;have h1:=hM k hk ia hia ib hib;unfold dt at h1;rw [ea,eb,xh (fun j hj hs=>by rw [b64] at hj;rw [gh hj,gh (by rw [hb.1,<- ha.1];exact hj)];exact hl j hj hs),b7w,Bool.not_eq_false'] at h1;obtain ⟨r,hr,e⟩:=b6c.1 h1;rw [<- aq4 (by rw [ha.1,hb.1]),<- of_decide_eq_true e];exact hr
theorem Ch.has (h:Ch n.toNat p m l0 l σ) (hT:tok n l = true) (hl0:∀ r,r ∈ l0 -> r.length = n.toNat) (hn:dc l p m = none):(∀ x y,LE n.toNat p m l0 x y -> σ x = σ y) /\ ∀ r,LR n.toNat p m l0 r -> r.map σ ∈ l:=by
 have hm:=Ch.mdl (p:=p) (m:=m) hT hn σ;have hl:∀ r,r ∈ l0 -> r.length = n.toNat /\ r.map σ ∈ l:=fun r hr=>⟨hl0 r hr,h.img r hr⟩;exact ⟨fun x y e=>e _ _ hm hl,fun r e=>(e _ _ hm hl).2⟩
def a7g:∀ {r:Rw},(∀ z,z ∈ r -> f z = z) -> r.map f = r
 | [],_=>rfl
 | z :: r,h=>by rw [b71,h z b8l,a7g fun y hy=>h y (by simp [hy])]
theorem Ch.mem (h:Ch n.toNat p m l0 l σ) (hT:tok n l = true) (hl0:∀ r,r ∈ l0 -> r.length = n.toNat) (hn:dc l p m = none) {r:Rw}:r ∈ l <-> LR n.toNat p m l0 r /\ r.map σ = r:=by
 constructor
 · intro hr
   exact ⟨h.rows r hr,a7g (h.fix r hr)⟩
 rintro ⟨h1,h2⟩;rw [<- h2];exact (h.has hT hl0 hn).2 r h1
end
end
end
section
def yr:List (List Int) -> List Rw
 | []=>[[]]
 | c :: cs=>c.flatMap fun z=>(yr cs).map fun r=>z :: r
def a9q:∀ {k:Nat} {cs:List (List Int)},(∀ c,c ∈ cs -> c.length <= k) -> (yr cs).length <= k ^ cs.length
 | _,[],_=>b5g 1
 | k,c :: cs,h=>by
  have h1:=h c b8l;have h2:=a9q (k:=k) (cs:=cs) fun d hd=>h d (by simp [hd]);unfold yr;rw [List.length_flatMap];simp only [b64,List.map_const',List.sum_replicate_nat,b6k];rw [Nat.pow_succ,Nat.mul_comm];exact Nat.mul_le_mul h2 h1
def a9t:∀ {cs:List (List Int)} {r:Rw},r.length = cs.length -> (∀ i,i < cs.length -> r.getD i default ∈ cs.getD i default) -> r ∈ yr cs
 | [],[],_,_=>by simp [yr]
 | [],_ :: _,h,_=>by cases h
 | _ :: _,[],h,_=>by cases h
 | c :: cs,z :: r,h,hm=>by
  unfold yr;rw [b8h];refine ⟨z,hm 0 b8l,b5w.2 ⟨r,a9t (by simpa using h) fun i hi=>?_,rfl⟩⟩;have:=hm (i + 1) (by simpa using hi);simpa using this
def aih {l:List Rw} (h:k6 l):l.Nodup:=by
 refine List.Pairwise.imp ?_ h;intro a b hab e;subst e;rw [oi] at hab;cases hab
section
variable {N:Nat} {p m:List Fd} {l0 l:List Rw}
def a2q {a b:Rw} {s:AS} {i:Nat} (h:i < b.length):(d7 a b s).getD i default = if bi s (i:Int) = true then a.getD i default else b.getD i default:=by
 unfold d7;rw [b5c,b5s,b6d h];rfl
def abx (C:Nat -> List Int) (hd:∀ i j z,z ∈ C i -> z ∈ C j -> i = j):Mdl N p m (fun x y=>x = y \/ ∃ i,x ∈ C i /\ y ∈ C i) (fun r=>r.length = N /\ ∀ i,i < N -> r.getD i default ∈ C i) where
 refl _:=.inl rfl
 symm h:=by
  rcases h with h | ⟨i,h,k⟩
  · exact .inl h.symm
  exact .inr ⟨i,k,h⟩
 trans h h2:=by
  rcases h with h | ⟨i,h,k⟩
  · rw [h];exact h2
  rcases h2 with h2 | ⟨j,h2,k2⟩
  · rw [<- h2];exact .inr ⟨i,h,k⟩
  have:=hd i j _ k h2;subst this;exact .inr ⟨i,h,k2⟩
 len h:=h.1
 cong h e h2:=⟨e.trans h.1,fun i hi=>by
  have h3:=h.2 i hi
  rcases h2 i (by rw [h.1];exact hi) with h4 | ⟨j,h4,h5⟩
  · rw [<- h4];exact h3
  have:=hd i j _ h3 h4;subst this
  exact h5⟩
 fd _ a b ha hb _:=fun i hi _=>.inr ⟨i,ha.2 i (by rw [<- ha.1];exact hi),hb.2 i (by rw [<- ha.1];exact hi)⟩
 mv _ a b ha hb _:=⟨(jb _ _ _).trans hb.1,fun i hi=>by
  rw [a2q (by rw [hb.1];exact hi)];split
  · exact ha.2 i hi
  exact hb.2 i hi⟩
def ahx:Mdl N p m (fun x y=>0 <= x <-> 0 <= y) (fun r=>r.length = N /\ ∀ i,i < r.length -> 0 <= r.getD i default) where
 refl _:=Iff.rfl
 symm h:=h.symm
 trans h h2:=h.trans h2
 len h:=h.1
 cong h e h2:=⟨e.trans h.1,fun i hi=>(h2 i b8i).1 (h.2 i b8i)⟩
 fd _ a b ha hb _:=fun i hi _=>⟨fun _=>hb.2 i (by rw [hb.1,<- ha.1];exact hi),fun _=>ha.2 i hi⟩
 mv _ a b ha hb _:=⟨(jb _ _ _).trans hb.1,fun i hi=>by
  rw [jb] at hi;rw [a2q hi];split
  · exact ha.2 i (by rw [ha.1,<- hb.1];exact hi)
  exact hb.2 i hi⟩
def aif (N:Nat) (p m:List Fd) (l0:List Rw):Prop:=∀ l,k6 l -> (∀ r,r ∈ l -> LR N p m l0 r) -> l.length <= 256
end
section
variable {p m:List Fd} {l0 l:List Rw} {n:Int} {σ:Int -> Int}
def aw7 (h0:tok n l0 = true) (hS:aif n.toNat p m l0) (ho:k6 l) (h:∀ r,r ∈ l -> LR n.toNat p m l0 r):tok n l = true:=by
 obtain ⟨h1,h2,_⟩:=eu h0;refine aks h1 h2 (hS l ho h) (fun r hr=>?_) ho;have h3:=h r hr _ _ ahx fun r0 hr0=>⟨(kf h0 r0 hr0).1,fun i hi=>(kf h0 r0 hr0).2 _ (du hi)⟩;refine ⟨h3.1,fun z hz=>?_⟩;obtain ⟨i,hi,rfl⟩:=sd hz;exact h3.2 i hi
def aox {s:St} (h:(ci n l p m s).2.2 = 0):k6 (ci n l p m s).2.1:=by
 unfold ci at *;split at h
 · rename_i e
   rw [if_pos e];unfold mvE pj at *;split at h
   · rename_i e2
     rw [if_pos e2];split at h
     · exact absurd h b8n
     rename_i e3;rw [if_neg e3];exact er _
   exact absurd h b8n
 rename_i e;rw [if_neg e];unfold fdE at *;split at h
 · rename_i e2
   rw [if_pos e2];exact er _
 exact absurd h b8n
theorem Ch.step (h0:tok n l0 = true) (hS:aif n.toNat p m l0) (hp:p.all (inU n) = true) (hT:tok n l = true) (h:Ch n.toNat p m l0 l σ) {s:St} (hs:aon l p m s) (he:(ci n l p m s).2.2 = 0) :
 ∃ l' σ',ci n l p m s = (n,l',0) /\ tok n l' = true /\ Ch n.toNat p m l0 l' σ':=by
 obtain ⟨h1,σ',h2⟩:=Ch.app (fun r hr=>(kf h0 r hr).1) hT hp h hs he;have h3:=aw7 h0 hS (aox he) h2.rows;refine ⟨_,σ', ?_,h3,h2⟩
 conv=>lhs;rw [<- Prod.eta (ci n l p m s),<- Prod.eta (ci n l p m s).2,h1,he]
def agf {s:St} (h:sv l p m s):aon l p m s:=by
 obtain ⟨h1,h2,h3⟩:=h;refine ⟨h1,h2,fun e=>?_,fun e=>?_⟩
 · rcases h3 with ⟨_,h,_⟩ | ⟨h,_⟩
   · exact h
   rw [e] at h;cases h
 rcases h3 with ⟨h,_⟩ | ⟨_,h,_⟩
 · rw [e] at h;cases h
 exact h
theorem Ch.code (h0:tok n l0 = true) (hS:aif n.toNat p m l0) (hp:p.all (inU n) = true) (hT:tok n l = true) (h:Ch n.toNat p m l0 l σ) {s:St} (hs:sv l p m s):(ci n l p m s).2.2 = 0:=by
 rcases adg hT hp hs with e | ⟨l',e,_⟩
 · obtain ⟨mu,i,a,b⟩:=s
   obtain ⟨ha,hb,hs | hs⟩:=hs
   · obtain ⟨h1,h2,h3⟩:=hs
     cases h1;have h4:ci n l p m (false,i,a,b) = fdE n l a b (p.getD i default):=rfl;have hg:=(ai7 hT (b5u.1 hp _ (du h2)) ha hb h3).1;have hg:fdE n l a b (p.getD i default) = (n,fdL l a b (p.getD i default),0):=hg;rw [h4,hg] at e ⊢
   obtain ⟨h1,h2,h3⟩:=hs;cases h1;have h4:ci n l p m (true,i,a,b) = mvE n l a b (m.getD i default):=rfl;have h5:dt l (m.getD i default) a b = true:=h3;unfold dt at h5;rw [b5j] at h5;have h6:mvE n l a b (m.getD i default) = pj n l (d7 (l.getD a default) (l.getD b default) ((m.getD i default).lhs ||| (m.getD i default).rhs)):=if_pos h5.1;have hl0:∀ r,r ∈ l0 -> r.length = n.toNat:=fun r hr=>(kf h0 r hr).1
   have h7:=hS (ai (l ++ [d7 (l.getD a default) (l.getD b default) ((m.getD i default).lhs ||| (m.getD i default).rhs)])) (er _) fun r hr=>by
    rcases b60.1 (ec.1 hr) with h8 | h8
    · exact h.rows r h8
    rw [b61.1 h8];exact (a2i hl0).mv (du h2) (h.rows _ (du ha)) (h.rows _ (du hb)) (aj8 hl0 h5.1)
   rw [h4,h6];unfold pj;rw [if_neg b8i]
 rw [e]
def TrZ (n:Int) (p m:List Fd) (lend:List Rw):List Rw -> List St -> Prop
 | l,[]=>l = lend
 | l,s :: r=>tok n l = true /\ sv l p m s /\ ∃ l',ci n l p m s = (n,l',0) /\ ¬ l' = l /\ TrZ n p m lend l' r
end
def stC (n:Int) (ps:List AS) (c:Nat):List Int:=if c < n.toNat then (List.range ps.length).map fun i=>stV n i (ps.getD i default) c else []
section
variable {n:Int} {ps:List AS} {p m:List Fd}
def asf (h0:0 <= n) {i c:Nat} {q:AS} (hc:c < n.toNat):stV n i q c % n = (c:Int):=by
 unfold stV;split
 · exact Int.emod_eq_of_lt b8i b8i
 have e:n + (i:Int) * n + (c:Int) = (c:Int) + n * (1 + (i:Int)):=by rw [Int.mul_add,Int.mul_one,Int.mul_comm (i:Int) n];omega
 rw [e,Int.add_mul_emod_self_left];exact Int.emod_eq_of_lt b8i b8i
def a8s (h0:0 <= n) {c:Nat} {z:Int} (h:z ∈ stC n ps c):c < n.toNat /\ z % n = (c:Int):=by
 unfold stC at h;split at h
 · rename_i hc
   obtain ⟨i,_,rfl⟩:=b5w.1 h;exact ⟨hc,asf h0 hc⟩
 simp at h
def age (h0:0 <= n):∀ i j z,z ∈ stC n ps i -> z ∈ stC n ps j -> i = j:=fun i j z h k=>by
 have h1:=(a8s h0 h).2;have h2:=(a8s h0 k).2;omega
def ast (c:Nat):(stC n ps c).length <= ps.length:=by
 unfold stC;split <;> simp
def zp {r:Rw} (hr:r ∈ ak n ps):r.length = n.toNat /\ ∀ i,i < n.toNat -> r.getD i default ∈ stC n ps i:=by
 unfold ak at hr;obtain ⟨k,hk,rfl⟩:=b5w.1 hr;refine ⟨a2c _ _ _,fun i hi=>?_⟩;rw [a5v hi];unfold stC;rw [if_pos hi];exact b5w.2 ⟨k,hk,rfl⟩
end
end
section
section
variable {n:Int} {ps:List AS} {p m:List Fd} {l l0:List Rw} {σ:Int -> Int}
def azf {N:Nat} {l l':List Rw} (h:∀ r,r ∈ l <-> r ∈ l') {r:Rw}:LR N p m l r <-> LR N p m l' r :=
 ⟨fun k E R hm hl=>k E R hm fun r hr=>hl r ((h r).1 hr),fun k E R hm hl=>k E R hm fun r hr=>hl r ((h r).2 hr)⟩
def amk (h0:0 <= n) {c:Nat} {z:Int} (h:z ∈ stC n ps c):z = (c:Int) \/ n <= z:=by
 unfold stC at h;split at h
 · obtain ⟨i,_,rfl⟩:=b5w.1 h
   unfold stV;split
   · exact .inl rfl
   right;have:=Int.mul_nonneg (show (0:Int) <= (i:Int) by omega) h0;omega
 simp at h
theorem Ch.first (h0:0 <= n) (h:Ch n.toNat p m (ai (ak n ps)) l σ):(bh n).map σ = bh n:=by
 refine a7g fun z hz=>?_;unfold bh at hz;obtain ⟨c,hc,rfl⟩:=b5w.1 hz;have hc:=b5r.1 hc;have h1:=h.sym (c:Int) _ _ (abx (stC n ps) (age h0)) fun r hr=>zp (ec.1 hr)
 rcases h1 with h1 | ⟨i,h1,h2⟩
 · exact h1.symm
 have h3:=(a8s h0 h1).2;have h4:=Int.emod_eq_of_lt (a:=(c:Int)) (b:=n) b8i b8i;have h5:i = c:=by omega
 subst h5;have h6:=h.le (i:Int)
 rcases amk h0 h2 with h7 | h7
 · exact h7
 omega
def akj {r:Rw}:(l.any fun x=>decide (x = r)) = decide (r ∈ l):=by
 rw [b87,b6c,decide_eq_true_iff];constructor
 · rintro ⟨x,hx,e⟩
   rw [<- of_decide_eq_true e];exact hx
 intro h;exact ⟨r,h,decide_eq_true rfl⟩
def swI (n z:Int):Int:=if n <= z /\ z < 2 * n then z + n else if 2 * n <= z /\ z < 3 * n then z - n else z
abbrev b4j (n:Int) (x:Fd):Fd:=⟨x.lhs,b6 n &&& ~~~(x.lhs ||| x.rhs)⟩
end
end
section
section
variable {n:Int} {p m:List Fd} {l0 l:List Rw} {σ:Int -> Int}
def apb (hT:tok n l = true) (hp:p.all (inU n) = true) (hm:m = []) {s:St} (hs:sv l p m s):(ci n l p m s).2.2 = 0:=by
 obtain ⟨mu,i,a,b⟩:=s;obtain ⟨ha,hb,hs | hs⟩:=hs
 · obtain ⟨h1,h2,h3⟩:=hs
   cases h1;have h4:ci n l p m (false,i,a,b) = fdE n l a b (p.getD i default):=rfl;have hg:fdE n l a b (p.getD i default) = (n,fdL l a b (p.getD i default),0):=(ai7 hT (b5u.1 hp _ (du h2)) ha hb h3).1;rw [h4,hg]
 obtain ⟨_,h2,_⟩:=hs;subst hm;exact absurd h2 (b5i _)
def am9 (hl0:∀ r,r ∈ l0 -> r.length = n.toNat) (hp:p.all (inU n) = true) (Z:List Int):∀ (F:Nat) (l:List Rw) (acc:List St) (σ:Int -> Int),tok n l = true -> Ch n.toNat p m l0 l σ -> Cov Z l -> muC Z l < F ->
 (fv F n l p m acc = ([],(0,[]),3) /\ ¬ m = []) \/ ∃ sts lend σ',fv F n l p m acc = (acc ++ sts,(n,lend),0) /\ Ch n.toNat p m l0 lend σ' /\ tok n lend = true /\ dc lend p m = none /\ TrZ n p m lend l sts:=by
 intro F
 induction F with
 | zero=>intro _ _ _ _ _ _ h;exact absurd h (b5i _)
 | succ F ih =>
  intro l acc σ hT hC hZ hF
  cases hn:dc l p m with
  | none=>exact .inr ⟨[],l,σ,by rw [a5q b8i hn,b6h],hC,hT,hn,rfl⟩
  | some s =>
   have hs:=a1t hn
   rcases adg hT hp hs with e | ⟨l',e,hT',h3⟩
   · left
     refine ⟨a5z b8i hn e b8n,fun hm=>?_⟩;have:=apb hT hp hm hs;rw [e] at this;exact absurd this b8n
   obtain ⟨h4,h5⟩:=h3 Z hZ;obtain ⟨_,σ',hC'⟩:=Ch.app hl0 hT hp hC (agf hs) (by rw [e]);rw [e] at hC'
   rcases ih l' (acc ++ [s]) σ' hT' hC' h4 b8i with ⟨q,q0⟩ | ⟨sts,lend,σ2,q1,q2,q3,q4,q5⟩
   · left
     exact ⟨by rw [xa b8i hn e,Nat.add_sub_cancel,q],q0⟩
   right;refine ⟨s :: sts,lend,σ2, ?_,q2,q3,q4,hT,hs,l',e,fun e=>?_,q5⟩
   · rw [xa b8i hn e,Nat.add_sub_cancel,q1,b6l]
     rfl
   subst e;omega
def a93 (hT:tok n l = true) (hb:bw n p m = 0):(gc FU n l p m = ([],(0,[]),3) /\ ¬ m = []) \/ ∃ sts lend σ,gc FU n l p m = (sts,(n,lend),0) /\ Ch n.toNat p m l lend σ /\ tok n lend = true /\ dc lend p m = none /\ TrZ n p m lend l sts:=by
 have hck:ckE n l p m = 0:=(if_pos hT).trans hb;rw [qe hck]
 rcases am9 (fun r hr=>(kf hT r hr).1) (oj hb).2.2.2.1 l.flatten FU l [] id hT Ch.start (adj l) (adn hT) with h | ⟨sts,lend,σ',q1,q⟩
 · exact .inl h
 exact .inr ⟨sts,lend,σ',by rw [q1,b6u],q⟩
def trL (n:Int) (p m:List Fd):List Rw -> List St -> List (List Rw)
 | l,[]=>[l]
 | l,s :: r=>l :: trL n p m (ci n l p m s).2.1 r
def a7a:∀ {sts:List St} {l:List Rw},(trL n p m l sts).length = sts.length + 1
 | [],_=>rfl
 | s :: r,l=>by unfold trL;rw [b6k,a7a,b6k]
def aeg:∀ {sts:List St} {l lend:List Rw},TrZ n p m lend l sts -> lend ∈ trL n p m l sts
 | [],l,lend,h=>by
  have h:l = lend:=h;subst h;simp [trL]
 | s :: r,l,lend,h=>by
  obtain ⟨_,_,l',e,_,h⟩:=h;unfold trL;rw [e];exact b65 _ (aeg h)
def ak4 (hl0:∀ r,r ∈ l0 -> r.length = n.toNat) (hp:p.all (inU n) = true):∀ {sts:List St} {l lend:List Rw} {σ:Int -> Int},TrZ n p m lend l sts -> tok n lend = true -> Ch n.toNat p m l0 l σ -> ∀ t,t ∈ trL n p m l sts -> ∃ σ,Ch n.toNat p m l0 t σ
 | [],l,lend,σ,h,_,hC,t,ht=>by
  rw [b61.1 (show t ∈ [l] from ht)];exact ⟨σ,hC⟩
 | s :: r,l,lend,σ,h,hTe,hC,t,ht=>by
  obtain ⟨hT,hs,l',e,_,h⟩:=h;unfold trL at ht;rw [e] at ht
  rcases b5k.1 ht with rfl | ht
  · exact ⟨σ,hC⟩
  obtain ⟨_,σ',hC'⟩:=Ch.app hl0 hT hp hC (agf hs) (by rw [e]);rw [e] at hC';exact ak4 hl0 hp h hTe hC' t ht
end
section
variable {n:Int} {ps:List AS} {p m:List Fd}
def z7 (h0:0 <= n) (h16:n <= 16) (hk:ps.length <= 64):tok n (ai (ak n ps)) = true:=by
 refine a0o h0 h16 ?_ fun r hr=>?_
 · have:=w9 (ak n ps)
   rw [mi] at this;omega
 obtain ⟨h1,h2⟩:=zp hr;refine ⟨h1,fun z hz=>?_⟩;obtain ⟨i,hi,rfl⟩:=sd hz
 rcases amk h0 (h2 i b8i) with h3 | h3 <;> omega
def alc (hk:ps.length <= 64) (hb:bw n p m = 0) :
 (gc FU n (ai (ak n ps)) p m = ([],(0,[]),3) /\ ¬ m = []) \/ ∃ sts lend,gc FU n (ai (ak n ps)) p m = (sts,(n,lend),0) /\ (bh n ∈ lend <-> LR n.toNat p m (ak n ps) (bh n)) /\
  TrZ n p m lend (ai (ak n ps)) sts /\ tok n lend = true /\ ((∃ t,t ∈ trL n p m (ai (ak n ps)) sts /\ bh n ∈ t) <-> bh n ∈ lend):=by
 obtain ⟨h0,h16,_,hp,_⟩:=oj hb;have hT:=z7 h0 h16 hk;have hl0:∀ r,r ∈ ai (ak n ps) -> r.length = n.toNat:=fun r hr=>(kf hT r hr).1
 rcases a93 hT hb with h | ⟨sts,lend,σ,h1,h2,h3,h4,h5⟩
 · exact .inl h
 right
 have hf:bh n ∈ lend <-> LR n.toNat p m (ai (ak n ps)) (bh n):=by
  rw [h2.mem h3 hl0 h4];exact ⟨fun h=>h.1,fun h=>⟨h,h2.first h0⟩⟩
 refine ⟨sts,lend,h1,by rw [hf,azf (l':=ak n ps) fun r=>ec],h5,h3, ?_⟩;constructor
 · rintro ⟨t,ht,hft⟩
   obtain ⟨σ',hC⟩:=ak4 hl0 hp h5 h3 Ch.start t ht;exact hf.2 (hC.rows _ hft)
 intro h;exact ⟨lend,aeg h5,h⟩
end
end
section
section
variable {n:Int} {l:List Fd}
end
def a7e {α β:Type} [Inhabited α] {f:α -> β} {l:List α} {i:Nat} (h:i < l.length):(l.take (i + 1)).map f = (l.take i).map f ++ [f (l.getD i default)]:=by
 rw [c0 h,List.map_append];rfl
structure Dps where
 n:BitVec 8
 l:List Dp
deriving Inhabited
def Dps.num (d:Dps):Int:=((d.n.toNat % 7:Nat):Int)
def Dps.fds (d:Dps):List Fd:=d.l.map (Dp.fd d.num)
def Dps.c (d:Dps):Nat -> PV
 | 0=>.raw (.int .u8 (d.n.toNat:Int))
 | 1=>dpl d.l
 | _=>.any
abbrev Dps.pc (d:Dps):PC:=.agg [d.c 0,d.c 1]
end
section
def noA (s:AS) (a:Nat):AS:=s &&& ~~~((1:AS) <<< a)
def axh (n:Int) (l:List Fd) (s:AS) (a:Nat):AS:=if a8c n l (noA s a) = true then noA s a else s
def b0c (n:Int) (l:List Fd) (s:AS) (k:Nat):AS:=(List.range k).foldl (fun s j=>axh n l s (n.toNat - 1 - j)) s
def rkE (n:Int) (l:List Fd) (s:AS):Int:=if db n l = 0 then (if a8c n l s = true then 0 else 1) else db n l
def rkS (n:Int) (l:List Fd) (s:AS):AS:=if rkE n l s = 0 then b0c n l s n.toNat else 0
def b0a (n:Int) (l:List Fd) (s:AS):Bool:=a8c n l s && (List.range n.toNat).all fun a=>!(s.getLsbD a && a8c n l (noA s a))
def b0o (n:Int) (l:List Fd) (i:Nat):List AS:=((List.range i).map (BitVec.ofNat 32)).filter (b0a n l)
def aqw (n:Int) (l:List Fd):List AS:=if db n l = 0 then ord (b0o n l (2 ^ n.toNat)) else []
end
section
def bC:Bool -> Nat -> PV:=fun b _=>.raw (.bool b)
def anq (n:Int) (l:List Fd) (k:Nat):Bool:=decide (clo l (BitVec.ofNat 32 k) = b6 n)
def b29 (n:Int) (l:List Fd) (i:Nat):List Bool:=(List.range (2 ^ n.toNat)).map fun k=>decide (k < i) && anq n l k
def b4b (n:Int) (l:List Fd):List Bool:=b29 n l (2 ^ n.toNat)
end
section
section
variable {n:Int} {l:List Fd}
def okA (n:Int) (l:List Fd) (i a:Nat):Bool:=anq n l i && (List.range a).all fun b=>!(i.testBit b && anq n l (i ^^^ 2 ^ b))
section
variable {i a:Nat} (hv:db n l = 0) (hi:i < 2 ^ n.toNat) (ha:(a:Int) < n) (hx:i ^^^ 2 ^ a < 2 ^ n.toNat)
include hv hi ha hx
end
end
end
section
def ai4 (s:AS):Nat -> AS -> List AS
 | 0,_=>[]
 | n + 1,x=>if x = 0 then [] else x :: ai4 s n ((x - 1) &&& s)
def aan (s:AS):List AS:=0 :: ai4 s (s.toNat + 1) s
def sub_zero (s:AS):sub 0 s:=dj.2 fun i hi h=>by simp at h
def TsI (s:AS) (x:Nat × List AS × AS):Prop:=x.2.1 ++ ai4 s x.1 x.2.2 = aan s /\ x.2.2.toNat < x.1 /\ x.2.1.length + x.1 = s.toNat + 2
def aca (l:List Fd) (p s:AS):Bool:=decide (sub p (clo l s))
def b2i (l:List Fd) (p x:AS):Bool:=(List.range 32).all fun a=>!(x.getLsbD a && aca l p (noA x a))
def b4d (l:List Fd) (p x r:AS):Prop:=sub r x /\ ∀ a,a < 32 -> x.getLsbD a = true -> r.getLsbD a = true \/ aca l p (noA x a) = false
def ao3 (l:List Fd) (p x:AS):Bool:=aca l p x && b2i l p x
def amv (l:List Fd) (p:AS):AS:=orL ((aan p).filter (ao3 l p))
def a86 {k:Nat}:∀ {ps:List AS} {s:AS},(ps.foldl (· ||| ·) s).getLsbD k = (s.getLsbD k || ps.any fun x=>x.getLsbD k)
 | [],s=>by simp
 | x :: ps,s=>by
  rw [List.foldl_cons,a86,b7g,List.any_cons,Bool.or_assoc]
def b2r (l:List Fd) (p:AS) (i:Nat):AS:=orL (((aan p).take i).filter (ao3 l p))
end
section
def b4z (l:List Fd) (p x:AS) (a:Nat):Bool:=(List.range a).all fun b=>!(x.getLsbD b && aca l p (noA x b))
def b1o (i:Nat):List AS:=(List.range i).map (BitVec.ofNat 32)
def prQ (l:List Fd) (p x:AS):Bool:=decide (sub x p) && ao3 l p x
def b2w (l:List Fd) (p:AS) (i:Nat):AS:=orL ((b1o i).filter (prQ l p))
section
variable {l:List Fd} {p:AS} {i:Nat}
end
def b1d (l:List Fd) (p x:AS):Bool:=!aca l p x && decide (((clo l x &&& p) &&& ~~~x) &&& ~~~amv l p ≠ 0)
def az2 (l:List Fd) (p:AS):Bool:=!(aan p).any (b1d l p)
def b16 (n:Int) (l:List Fd) (p:AS):Int:=if db n l = 0 then (if sub p (b6 n) then 0 else 1) else db n l
def b52 (n:Int) (l:List Fd) (p:AS):Bool:=decide (b16 n l p = 0) && az2 l p
end
section
section
variable {n:Int} {l:List Fd}
def ay3 (n:Int) (l:List Fd) (f:Fd):Bool:=decide (clo l f.lhs ≠ b6 n) && decide (f.rhs &&& ~~~amv l (b6 n) ≠ 0)
def b34 (n:Int) (l:List Fd) (i:Nat):List Fd:=((air n l).take i).filter (ay3 n l)
def b3k (n:Int) (l:List Fd):List Fd:=(air n l).filter (ay3 n l)
end
end
section
def b2o (l:List Fd) (pr k:AS):Bool:=(List.range 32).all fun a=>!k.getLsbD a || decide (sub (clo l (noA k a)) pr)
def b0v (n:Int) (l:List Fd):Bool:=(aqw n l).all (b2o l (orL (aqw n l)))
def b43 (n:Int) (l:List Fd):Bool:=decide (db n l = 0) && b0v n l
section
variable {l:List Fd} {pr k:AS}
def b3v (l:List Fd) (pr k r:AS):Prop:=sub r k /\ ∀ a,a < 32 -> k.getLsbD a = true -> r.getLsbD a = true \/ sub (clo l (noA k a)) pr
def b4c (l:List Fd) (pr k:AS) (s:Nat):Prop:=∀ j,j < s -> sub (BitVec.ofNat 32 j) k -> sub (clo l (BitVec.ofNat 32 j)) pr
end
section
variable {n:Int} {l:List Fd}
end
end
section
def mgR (l:List Fd) (s:AS):AS:=(l.filter fun f=>decide (f.lhs = s)).foldl (fun a f=>a ||| f.rhs) 0
def mgF (l:List Fd) (s:AS):Fd:=⟨s,mgR l s⟩
def b2e (l:List Fd):List Fd:=(ord (l.map Fd.lhs)).map (mgF l)
end
section
open Go.Proofs
def b32 (t:AS) (l:List Fd):Prop:=∀ x ∈ l,sub x.rhs t
def aj9 (n:Int) (l:List Fd):List Fd:=b2e (air n l)
def pt (f:Fd):AS:=f.lhs ||| f.rhs
section
variable {n:Int} {l:List Fd}
def ar0 (n:Int) (l:List Fd) (i:Nat):Bool:=((aj9 n l).take i).any fun f=>a8c n l (pt f)
def ajk (n:Int) (l:List Fd):List AS:=(aj9 n l).map pt
def b1y (n:Int) (l:List Fd):List AS:=acm (if ar0 n l (aj9 n l).length = true then ajk n l else ajk n l ++ [rkS n l (b6 n)])
def b59 (n:Int) (l:List Fd):List AS:=if db n l = 0 then b1y n l else []
def b41 (n:Int) (l:List Fd):List AS:=if ar0 n l (aj9 n l).length = true then ajk n l else ajk n l ++ [rkS n l (b6 n)]
end
end
section
def Eqv (l k:List Fd):Prop:=∀ s,qh l s <-> qh k s
theorem Eqv.refl (l:List Fd):Eqv l l:=fun s=>Iff.rfl
theorem Eqv.trans {a b c:List Fd} (h:Eqv a b) (k:Eqv b c):Eqv a c:=fun s=>(h s).trans (k s)
theorem Eqv.clo {l k:List Fd} (h:Eqv l k) (s:AS):clo l s = clo k s :=
 pi (aa8 ((h _).2 a1l) amm) (aa8 ((h _).1 a1l) amm)
end
section
def b3l (l:List Fd) (ps:List AS) (t:AS):Prop:=∀ p ∈ ps,sub (clo l (t &&& p) &&& p) t
def azy (l:List Fd) (s p:AS):AS:=s ||| (clo l (s &&& p) &&& p)
def b2v (l:List Fd) (ps:List AS) (s:AS):AS:=ps.foldl (azy l) s
def PrI (l:List Fd) (ps:List AS) (z s:AS):Prop:=sub z s /\ sub s (aq9 l ps z)
def b3t (n:Int) (l:List Fd) (i:Nat):List AS:=((aam (b6 n)).take i).filter fun s=>!sx l s
end
section
def b2x (l:List Fd):Prop:=∀ f ∈ l,∀ i,i < 32 -> f.rhs.getLsbD i = true -> f.lhs.getLsbD i = false
section
variable {n:Int} {l:List Fd}
end
end
section
open Go.Proofs
def av2 {ps:List AS} {k:AS} (h:k ∈ ps):sub k (orL ps):=dj.2 fun i hi hb=>by
 unfold orL;rw [a86,b6r];exact .inr (b6c.2 ⟨k,h,hb⟩)
section
variable {n:Int} {l:List Fd}
end
end
section
def aog (E:Int -> Int -> Prop) (R:Rw -> Prop) (s:AS):Prop:=∃ r,R r /\ ∀ i:Nat,i < r.length -> bi s (i:Int) = true -> E (r.getD i default) (i:Int)
section
variable {N:Nat} {p m:List Fd} {E:Int -> Int -> Prop} {R:Rw -> Prop}
def apr {s t:AS} (h:sub s t) {i:Nat} (hi:bi s (i:Int) = true):bi t (i:Int) = true:=by
 by_cases hl:i < 32
 · rw [ef hl] at hi ⊢
   exact dj.1 h i hl hi
 rw [uz b8i] at hi;cases hi
def aog.mono {s t:AS} (h:aog E R t) (hs:sub s t):aog E R s:=by
 obtain ⟨r,h1,h2⟩:=h;exact ⟨r,h1,fun i hi hh=>h2 i hi (apr hs hh)⟩
end
section
variable {n:Int} {p m:List Fd} {ps:List AS}
def ael {c:Nat} (hc:c < n.toNat):(bh n).getD c default = (c:Int):=by
 unfold bh;rw [b5c,b5s,b6d hc];rfl
end
end
section
def lvE (n:Int) (ps:List AS):Int:=if n < 0 \/ 8 < n then 7 else if 64 < ps.length then 3 else if ps.length = 0 \/ ¬ orL ps = b6 n then 1 else 0
section
variable {n:Int} {ps:List AS} {p m:List Fd}
def ab4 (h:n < 0 \/ 8 < n):lvE n ps = 7:=if_pos h
def aqo (h:¬ (n < 0 \/ 8 < n)) (h2:64 < ps.length):lvE n ps = 3:=by unfold lvE;rw [if_neg h,if_pos h2]
def ab3 (h:¬ (n < 0 \/ 8 < n)) (h2:¬ 64 < ps.length) (h3:ps.length = 0 \/ ¬ orL ps = b6 n):lvE n ps = 1:=by unfold lvE;rw [if_neg h,if_neg h2,if_pos h3]
def aqh (h:¬ (n < 0 \/ 8 < n)) (h2:¬ 64 < ps.length) (h3:¬ (ps.length = 0 \/ ¬ orL ps = b6 n)):lvE n ps = 0:=by unfold lvE;rw [if_neg h,if_neg h2,if_neg h3]
def vb (h:lvE n ps = 0):0 <= n /\ n <= 8 /\ ps.length <= 64 /\ 0 < ps.length /\ orL ps = b6 n:=by
 unfold lvE at h;split at h
 · exact absurd h b8n
 split at h
 · exact absurd h b8n
 split at h
 · exact absurd h b8n
 rename_i h1 h2 h3;refine ⟨by omega,by omega,by omega,by omega, ?_⟩;apply Classical.byContradiction;intro e;exact h3 (.inr e)
def lsT (n:Int) (ps:List AS) (p m:List Fd):List St × (Int × List Rw) × Int:=gc FU n (ai (ak n ps)) p m
def lsC (n:Int) (ps:List AS) (p m:List Fd):Int:=if lvE n ps = 0 then (if bw n p m = 0 then (lsT n ps p m).2.2 else bw n p m) else lvE n ps
def lsB (n:Int) (ps:List AS) (p m:List Fd):Bool:=decide (lsC n ps p m = 0) && (lsT n ps p m).2.1.2.any fun r=>decide (r = bh n)
def azm (h:¬ lvE n ps = 0):lsC n ps p m = lvE n ps /\ lsB n ps p m = false:=by
 have e:lsC n ps p m = lvE n ps:=if_neg h;exact ⟨e,by unfold lsB;rw [e,decide_eq_false h];rfl⟩
def b08 (h:lvE n ps = 0) (h2:¬ bw n p m = 0):lsC n ps p m = bw n p m /\ lsB n ps p m = false:=by
 have e:lsC n ps p m = bw n p m:=(if_pos h).trans (if_neg h2);exact ⟨e,by unfold lsB;rw [e,decide_eq_false h2];rfl⟩
def ab0 (h:lvE n ps = 0) (h2:bw n p m = 0):lsC n ps p m = (lsT n ps p m).2.2:=(if_pos h).trans (if_pos h2)
def a0x (h:lsC n ps p m = 0):lvE n ps = 0 /\ bw n p m = 0:=by
 unfold lsC at h;split at h
 · rename_i e
   split at h
   · rename_i e2;exact ⟨e,e2⟩
   rename_i e2;exact absurd h e2
 rename_i e;exact absurd h e
def aze (h:lvE n ps = 0) {q:AS} (hq:q ∈ ps):sub q (b6 n):=by
 rw [<- (vb h).2.2.2.2];exact av2 hq
def abh (h:lvE n ps = 0):ez n ps = (n,ai (ak n ps),0):=by
 obtain ⟨h0,h8,h64,_⟩:=vb h;exact a3w b8i b8i fun j hj=>(ajf h0 b8i).1 (aze h (du hj))
def b4v (n:Int) (p:List Fd) (ps:List AS):Bool:=lsB n ps p [] && !ps.any (sx p)
end
end
section
abbrev tbC (a:Int × List Rw):Nat -> PV:=fun j=>[.raw (.int .i64 a.1),rl a.2].getD j .any
def lcR (n:Int) (ps:List AS) (p m:List Fd):(Int × List Rw) × List St × (Int × List Rw) × Int :=
 if lvE n ps = 0 then (if bw n p m = 0 then ((n,ai (ak n ps)),(lsT n ps p m).1,(lsT n ps p m).2.1,(lsT n ps p m).2.2) else ((0,[]),[],(0,[]),bw n p m)) else ((0,[]),[],(0,[]),lvE n ps)
section
variable {n:Int} {ps:List AS} {p m:List Fd} {l lend:List Rw}
def b0e (h:¬ lvE n ps = 0):lcR n ps p m = ((0,[]),[],(0,[]),lvE n ps):=if_neg h
def b0n (h:lvE n ps = 0) (h2:¬ bw n p m = 0):lcR n ps p m = ((0,[]),[],(0,[]),bw n p m):=(if_pos h).trans (if_neg h2)
def ai3 (h:lvE n ps = 0) (h2:bw n p m = 0):lcR n ps p m = ((n,ai (ak n ps)),(lsT n ps p m).1,(lsT n ps p m).2.1,(lsT n ps p m).2.2):=(if_pos h).trans (if_pos h2)
def im:(lcR n ps p m).2.2.2 = lsC n ps p m:=by
 unfold lcR lsC;split
 · split <;> rfl
 rfl
def ant (h:(lcR n ps p m).2.2.2 = 0):((lcR n ps p m).2.2.1.2.any fun r=>decide (r = bh n)) = lsB n ps p m:=by
 have hc:=h;rw [im] at hc;obtain ⟨h1,h2⟩:=a0x hc;unfold lsB;rw [decide_eq_true hc,b7w,ai3 h1 h2]
def anu (h:¬ (lcR n ps p m).2.2.2 = 0):lsB n ps p m = false:=by
 rw [im] at h;unfold lsB;rw [decide_eq_false h];rfl
def aw9:(bif decide ((lcR n ps p m).2.2.2 = 0) then ((lcR n ps p m).2.2.1.2.any fun r=>decide (r = bh n)) else false) = lsB n ps p m:=by
 by_cases h:(lcR n ps p m).2.2.2 = 0
 · rw [decide_eq_true h,cond_true,ant h]
 rw [decide_eq_false h,cond_false,anu h]
def b1v (h:lcR n ps p m = lcR n ps p m) (h2:(lcR n ps p m).2.2.2 = 0):0 <= n /\ n <= 8:=by
 rw [im] at h2;obtain ⟨h1,_⟩:=a0x h2;exact ⟨(vb h1).1,(vb h1).2.1⟩
def aik:∀ {sts:List St} {l:List Rw} {i:Nat},TrZ n p m lend l sts -> i <= sts.length -> TrZ n p m lend ((trL n p m l sts).getD i default) (sts.drop i)
 | [],l,0,h,_=>h
 | s :: r,l,0,h,_=>h
 | s :: r,l,i + 1,h,hi=>by
  obtain ⟨_,_,l',e,_,h⟩:=h;unfold trL;rw [e];exact aik (i:=i) h (by simpa using hi)
def a1r:∀ {sts:List St} {l:List Rw} {i:Nat},i < sts.length -> (trL n p m l sts).getD (i + 1) default = (ci n ((trL n p m l sts).getD i default) p m (sts.getD i default)).2.1
 | [],l,i,hi=>by simp at hi
 | s :: r,l,0,_=>by
  unfold trL
  cases r with
  | nil=>rfl
  | cons s2 r2=>rfl
 | s :: r,l,i + 1,hi=>by
  unfold trL;exact a1r (sts:=r) (i:=i) (by simpa using hi)
section
variable {sts:List St}
def agb:(trL n p m l sts).getD 0 default = l:=by cases sts <;> rfl
def j4 (n:Int) (p m:List Fd) (l:List Rw) (sts:List St):List (Int × List Rw):=(trL n p m l sts).map fun t=>(n,t)
def u7:(j4 n p m l sts).length = sts.length + 1:=by unfold j4;rw [b64,a7a]
def y7 {i:Nat} (hi:i <= sts.length):(j4 n p m l sts).getD i default = (n,(trL n p m l sts).getD i default):=by
 unfold j4;have:i < (trL n p m l sts).length:=by rw [a7a];omega
 rw [b5c,b5s,b5b this,b5c,b5b this];rfl
def a9d {i:Nat} (hi:i < sts.length):(j4 n p m l sts).take (i + 1 + 1) = (j4 n p m l sts).take (i + 1) ++ [(n,(ci n ((trL n p m l sts).getD i default) p m (sts.getD i default)).2.1)]:=by
 rw [c0 (by rw [u7];omega),y7 b8i,a1r hi]
def ade:(j4 n p m l sts).take 1 = [(n,l)]:=by
 unfold j4;cases sts <;> rfl
def rcR (n:Int) (ps:List AS) (p m:List Fd):List St × List (Int × List Rw) × Int :=
 if lsC n ps p m = 0 then ((lsT n ps p m).1,j4 n p m (ai (ak n ps)) (lsT n ps p m).1,0) else ([],[],lsC n ps p m)
def aj0 {c:Int} (h:lsC n ps p m = c) (h2:¬ c = 0):rcR n ps p m = ([],[],c):=by
 unfold rcR;rw [h,if_neg h2]
def aav (h:lsC n ps p m = 0):rcR n ps p m = ((lsT n ps p m).1,j4 n p m (ai (ak n ps)) (lsT n ps p m).1,0):=if_pos h
def aex (h:lvE n ps = 0) (hb:bw n p m = 0) (hc:(lsT n ps p m).2.2 = 0):∃ sts lend,lsT n ps p m = (sts,(n,lend),0) /\ TrZ n p m lend (ai (ak n ps)) sts /\ tok n lend = true /\ ((∃ t,t ∈ trL n p m (ai (ak n ps)) sts /\ bh n ∈ t) <-> bh n ∈ lend):=by
 rcases alc (vb h).2.2.1 hb with ⟨e,_⟩ | ⟨sts,lend,e,h1,h2,h3,h4⟩
 · unfold lsT at hc
   rw [e] at hc;exact absurd hc b8n
 exact ⟨sts,lend,e,h2,h3,h4⟩
def ajs {p m:List Fd}:∀ (F:Nat) (n:Int) (l:List Rw) (acc:List St),(fv F n l p m acc).1.length <= acc.length + F:=by
 intro F
 induction F with
 | zero=>intro n l acc;unfold fv;simp
 | succ F ih =>
  intro n l acc;unfold fv;split
  · simp
  rename_i s _;split;rename_i n' l' e _;split
  · have:=ih n' l' (acc ++ [s])
    simp only [b5x,b6w] at this;omega
  simp
def a8h (h:lvE n ps = 0) (hb:bw n p m = 0):(lsT n ps p m).1.length <= FU:=by
 obtain ⟨h0,h8,h64,_⟩:=vb h;have hT:=z7 (ps:=ps) h0 b8i h64;have hck:ckE n (ai (ak n ps)) p m = 0:=(if_pos hT).trans hb;unfold lsT;rw [qe hck];have:=ajs (p:=p) (m:=m) FU n (ai (ak n ps)) [];simpa using this
def ig (n:Int) (t:List Rw):Bool:=t.any fun r=>decide (r = bh n)
def prX (n:Int) (ps:List AS) (p m:List Fd):Int:=idx (fun a:Int × List Rw=>ig n a.2) (rcR n ps p m).2.1
def prC (n:Int) (ps:List AS) (p m:List Fd):Int:=if (rcR n ps p m).2.2 = 0 then (if prX n ps p m < 0 then 11 else 0) else (rcR n ps p m).2.2
def prS (n:Int) (ps:List AS) (p m:List Fd):List St:=if (rcR n ps p m).2.2 = 0 then (if prX n ps p m < 0 then [] else (rcR n ps p m).1.take (prX n ps p m).toNat) else []
def ug:(rcR n ps p m).2.2 = lsC n ps p m:=by
 unfold rcR;split
 · rename_i h;exact h.symm
 rfl
end
end
end
section
open Go.Proofs
def ads {n:Int} {ps:List AS} {p m:List Fd} (h:lvE n ps = 0) (hb:bw n p m = 0) (hc:(lsT n ps p m).2.2 = 0):TrZ n p m (lsT n ps p m).2.1.2 (ai (ak n ps)) (lsT n ps p m).1:=by
 obtain ⟨sts,lend,e,htr,_⟩:=aex h hb hc;rw [e];exact htr
def ath {n:Int} {l:List Rw} {T:List (Int × List Rw)} {e:TypeId} {N:Nat} {f:Nat -> Nat -> PV} (h:T = [(n,l)]) (hN:N = 1) (h0:CoP (f 0 0) (.raw (.int .i64 n))) (h1:CoP (f 0 1) (rl l)):CoO (.arr true 2 e N f) (.arr true 2 e T.length (lf tbC T)):=by
 subst h hN;refine ⟨fun h=>h,rfl,rfl,rfl,fun a j ha hj=>?_⟩
 have ha:a = 0:=by
  have:a < 1:=ha;omega
 subst ha
 match j,hj with
 | 0,_=>exact h0
 | 1,_=>exact h1
def aoy {n:Nat} {l:List St} {i:Nat} {cl:Bool} (hn:n = (l.take i).length) {f:Nat -> Nat -> PV} (hf:∀ a j,f a j = lf St.c l a j):CoP (.sl n 4 cl f) (stl (l.take i)):=by
 refine CoP.sl hn.symm (.inl rfl) (fun h=>by cases h) fun a j ha hj=>CoP.of_eq ?_;rw [hf];show St.c (l.getD a default) j = St.c ((l.take i).getD a default) j;have:a < i:=by rw [hn,b5p] at ha;omega
 rw [b5c,b5c,b69,if_pos this]
def ahq (n:Int) (ps:List AS) (h:lvE n ps = 0):a8 b98 53 [pI n,pP (asl ps)] (ae [pT n (ai (ak n ps)),pI 0]):=by
 have:=axd n ps;rw [abh h] at this;exact this
def ap9 (n:Int) (ps:List AS) (h:lvE n ps = 0):a8 b98 84 [pI n,pP (asl ps)] (ae [pT n (ai (ak n ps)),pI 0]):=by
 have:=arn n ps;rw [abh h] at this;exact this
def ars (n:Int) (ps:List AS) (p m:List Fd):a8 b98 86 [pT n (ai (ak n ps)),pP (fdl p),pP (fdl m)] (ae [pP (stl (lsT n ps p m).1),pT (lsT n ps p m).2.1.1 (lsT n ps p m).2.1.2,pI (lsT n ps p m).2.2]) :=
 ayj FU n (ai (ak n ps)) p m (fun h=>adn h) b8n
def aps (n:Int) (ps:List AS) (p m:List Fd):a8 b98 92 [pT n (ai (ak n ps)),pP (fdl p),pP (fdl m)] (ae [pP (stl (lsT n ps p m).1),pT (lsT n ps p m).2.1.1 (lsT n ps p m).2.1.2,pI (lsT n ps p m).2.2]) :=
 arv FU n (ai (ak n ps)) p m (fun h=>adn h) b8n
def alj (n:Int) (l:List Rw) (p m:List Fd) (s:St) (hT:tok n l = true) (hb:bw n p m = 0) (h:sv l p m s) (he:ci n l p m s = (n,(ci n l p m s).2.1,0)):a8 b98 85 [pT n l,pP (fdl p),pP (fdl m),s.pc] (ae [pT n (ci n l p m s).2.1,pI 0]):=by
 have:=aa4 n l p m s ((if_pos hT).trans hb) h;rw [he] at this;exact this
def aqr {n:Int} {p m:List Fd} {l lend:List Rw} {sts:List St} {i:Nat} (hi:i < sts.length) (h:TrZ n p m lend l (sts.drop i)):tok n l = true /\ sv l p m (sts.getD i default) /\ ci n l p m (sts.getD i default) = (n,(ci n l p m (sts.getD i default)).2.1,0):=by
 have e:sts.drop i = sts.getD i default :: sts.drop (i + 1):=by
  rw [b7e hi,b5c,b5b hi];rfl
 rw [e] at h;obtain ⟨h1,h2,l',h3,h4,h5⟩:=h;rw [h3];exact ⟨h1,h2,rfl⟩
end
end Go.Hx

/- A part of the proof: Cc1 Cc2 Cc3 Ls1 Cs24 Cs26 V25 Cs27 Cs28 Cs30 V29 Cs31. -/
import Derived.Test.YtkkenjdfbojdlaaGreatDoorJx28
set_option linter.all false
set_option maxRecDepth 100000
namespace Go.Hx
section
def AgE (E:Int -> Int -> Prop) (a b:Rw) (s:AS):Prop:=∀ i:Nat,i < a.length -> dl s (i:Int) = true -> E (a.getD i default) (b.getD i default)
structure Mdl (N:Nat) (p m:List Fd) (E:Int -> Int -> Prop) (R:Rw -> Prop):Prop where
 refl:∀ x,E x x
 symm:∀ {x y},E x y -> E y x
 trans:∀ {x y z},E x y -> E y z -> E x z
 len:∀ {r},R r -> r.length = N
 cong:∀ {r r':Rw},R r -> r'.length = r.length -> (∀ i,i < r.length -> E (r.getD i default) (r'.getD i default)) -> R r'
 fd:∀ {x},x ∈ p -> ∀ {a b},R a -> R b -> AgE E a b x.lhs -> AgE E a b x.rhs
 mv:∀ {x},x ∈ m -> ∀ {a b},R a -> R b -> AgE E a b x.lhs -> R (dw a b (x.lhs ||| x.rhs))
def LE (N:Nat) (p m:List Fd) (l:List Rw) (x y:Int):Prop:=∀ E R,Mdl N p m E R -> (∀ r,r ∈ l -> R r) -> E x y
def LR (N:Nat) (p m:List Fd) (l:List Rw) (r:Rw):Prop:=∀ E R,Mdl N p m E R -> (∀ r,r ∈ l -> R r) -> R r
def b4j (N:Nat) (p m:List Fd):Mdl N p m (fun _ _=>True) (fun r=>r.length = N) :=
 ⟨fun _=>trivial,fun _=>trivial,fun _ _=>trivial,fun h=>h,fun h e _=>e.trans h,fun _ _ _ _ _ _ _ _ _=>trivial,fun _ a b _ hb _=>(p8 _ _ _).trans hb⟩
def a7s {N:Nat} {p m:List Fd} {l:List Rw} (hl:∀ r,r ∈ l -> r.length = N):Mdl N p m (LE N p m l) (LR N p m l) where
 refl x:=fun E R h _=>h.refl x
 symm h:=fun E R k kl=>k.symm (h E R k kl)
 trans h h2:=fun E R k kl=>k.trans (h E R k kl) (h2 E R k kl)
 len h:=h _ _ (b4j N p m) hl
 cong h e h2:=fun E R k kl=>k.cong (h E R k kl) e fun i hi=>h2 i hi E R k kl
 fd hx _ _ ha hb hl:=fun i hi hs E R k kl=>k.fd hx (ha E R k kl) (hb E R k kl) (fun j hj hh=>hl j hj hh E R k kl) i hi hs
 mv hx _ _ ha hb hl:=fun E R k kl=>k.mv hx (ha E R k kl) (hb E R k kl) fun j hj hh=>hl j hj hh E R k kl
structure Ch (N:Nat) (p m:List Fd) (l0 l:List Rw) (σ:Int -> Int):Prop where
 rows:∀ r,r ∈ l -> LR N p m l0 r
 sym:∀ s,LE N p m l0 s (σ s)
 img:∀ r,r ∈ l0 -> r.map σ ∈ l
 fix:∀ r,r ∈ l -> ∀ z,z ∈ r -> σ z = z
 le:∀ s,σ s <= s
section
variable {N:Nat} {p m:List Fd} {l0 l l':List Rw} {σ σ':Int -> Int} {n:Int}
theorem Ch.start:Ch N p m l0 l0 id:=⟨fun r hr E R _ hl=>hl r hr,fun s E R k _=>k.refl s,fun r hr=>by rw [List.map_id];exact hr,fun _ _ _ _=>rfl,fun s=>Int.le_refl s⟩
theorem Ch.congr (h:Ch N p m l0 l σ) (e:∀ r,r ∈ l' <-> r ∈ l):Ch N p m l0 l' σ :=
 ⟨fun r hr=>h.rows r ((e r).1 hr),h.sym,fun r hr=>(e _).2 (h.img r hr),fun r hr=>h.fix r ((e r).1 hr),h.le⟩
def qh (hi lo z:Int):Int:=if z = hi then lo else z
section
variable {f:Int -> Int}
def ke {r:Rw} {i:Nat} (h:i < r.length):(r.map f).getD i default = f (r.getD i default):=by
 rw [bjd,bjz,bjc h,bjd,bjc h];rfl
theorem Ch.sub (hl0:∀ r,r ∈ l0 -> r.length = N) (h:Ch N p m l0 l σ) {hi lo:Int} (hE:LE N p m l0 hi lo) (hle:lo <= hi) (hin:∃ r,r ∈ l /\ lo ∈ r):Ch N p m l0 (l.map fun r=>r.map (qh hi lo)) (fun s=>qh hi lo (σ s)):=by
 have hm:=a7s (p:=p) (m:=m) hl0
 have hs:∀ z,LE N p m l0 z (qh hi lo z):=fun z=>by
  unfold qh;split
  · rename_i e;rw [e];exact hE
  exact hm.refl z
 refine ⟨fun r hr=>?_,fun s=>hm.trans (h.sym s) (hs _),fun r hr=>?_,fun r hr z hz=>?_,fun s=>?_⟩
 · obtain ⟨r0,h0,rfl⟩:=bkg.1 hr
   exact hm.cong (h.rows r0 h0) bnp fun i hi=>by rw [ke hi];exact hs _
 · refine bkg.2 ⟨_,h.img r hr, ?_⟩
   rw [List.map_map];rfl
 · obtain ⟨r0,h0,rfl⟩:=bkg.1 hr
   obtain ⟨y,hy,rfl⟩:=bkg.1 hz;obtain ⟨r1,h1,h2⟩:=hin;have e1:=h.fix r0 h0 y hy;have e2:=h.fix r1 h1 lo h2;by_cases e:y = hi
   · have e3:qh hi lo y = lo:=if_pos e
     show qh hi lo (σ (qh hi lo y)) = qh hi lo y;rw [e3,e2];unfold qh;split <;> rfl
   have e3:qh hi lo y = y:=if_neg e;show qh hi lo (σ (qh hi lo y)) = qh hi lo y;rw [e3,e1,e3]
 have h1:=h.le s
 have h2:qh hi lo (σ s) <= σ s:=by
  unfold qh;split <;> omega
 exact Int.le_trans h2 h1
def asx {M:Nat -> Nat -> Int} {a b j:Nat}:dv l (eqM M a b j) = (dv l M).map fun r=>r.map (qh (hiI (M a j) (M b j)) (loI (M a j) (M b j))):=by
 unfold dv;rw [List.map_map];refine bls fun i _=>?_;show _ = List.map _ (List.map _ _);rw [List.map_map];rfl
def axf {M:Nat -> Nat -> Int} {a j:Nat} (ha:a < l.length) (hj:j < (l.getD a default).length):∃ r,r ∈ dv l M /\ M a j ∈ r :=
 aa1.2 ⟨a,j,ha,hj,rfl⟩
theorem Ch.eqMs (hl0:∀ r,r ∈ l0 -> r.length = N) {a b:Nat} (ha:a < l.length) (hb:b < l.length):∀ {js:List Nat} {M:Nat -> Nat -> Int} {σ:Int -> Int},Ch N p m l0 (dv l M) σ -> (∀ j,j ∈ js -> j < (l.getD a default).length /\ j < (l.getD b default).length /\ LE N p m l0 (M a j) (M b j)) ->
 ∃ σ',Ch N p m l0 (dv l (eqMs M a b js)) σ'
 | [],M,σ,h,_=>⟨σ,h⟩
 | j :: js,M,σ,h,hj=>by
  obtain ⟨h1,h2,h3⟩:=hj j bnp;have hm:=a7s (p:=p) (m:=m) hl0;have hlo:loI (M a j) (M b j) <= hiI (M a j) (M b j):=by unfold loI hiI;split <;> split <;> omega
  have hE:LE N p m l0 (hiI (M a j) (M b j)) (loI (M a j) (M b j)):=by
   rcases b1o (M a j) (M b j) with e | e <;> rcases arn (M a j) (M b j) with f | f <;> rw [e,f]
   · exact hm.refl _
   · exact h3
   · exact hm.symm h3
   exact hm.refl _
  have hin:∃ r,r ∈ dv l M /\ loI (M a j) (M b j) ∈ r:=by
   rcases arn (M a j) (M b j) with f | f <;> rw [f]
   · exact axf ha h1
   exact axf hb h2
  have hq:=h.sub hl0 hE hlo hin;rw [<- asx] at hq
  have hs:∀ z,LE N p m l0 z (if z = hiI (M a j) (M b j) then loI (M a j) (M b j) else z):=fun z=>by
   split
   · rename_i e;rw [e];exact hE
   exact hm.refl z
  exact Ch.eqMs hl0 ha hb (js:=js) hq fun k hk=>by
   obtain ⟨h4,h5,h6⟩:=hj k (by simp [hk]);exact ⟨h4,h5,hm.trans (hm.symm (hs (M a k))) (hm.trans h6 (hs (M b k)))⟩
def an3:dv l (ca l) = l:=by
 refine pl (lr _ _) fun i hi=>?_;rw [lr] at hi;rw [afn hi];refine pl bnp fun k hk=>?_;simp only [bk0,blu] at hk;rw [bjd,bjz,bku hk];rfl
def asj (hl0:∀ r,r ∈ l0 -> r.length = N) {a b:Rw} {s:AS} (h:k8 a b s = true):AgE (LE N p m l0) a b s:=fun i hi hs=>by
 rw [of_decide_eq_true h i hi hs];exact (a7s hl0).refl _
def dn {α:Type} [Inhabited α] {l:List α} {i:Nat} (h:i < l.length):l.getD i default ∈ l:=by
 rw [bjd,bjc h];exact bk7 h
def ay9 {a b:Rw} {s:AS} (hl:a.length = b.length) {z:Int} (hz:z ∈ dw a b s):z ∈ a \/ z ∈ b:=by
 unfold dw at hz;rw [bkg] at hz;obtain ⟨i,hi,rfl⟩:=hz;have hi:=bjs.1 hi;split
 · exact .inl (dn bnl)
 exact .inr (dn hi)
def bap (l:List Rw) (p m:List Fd) (s:St):Prop:=s.2.2.1 < l.length /\ s.2.2.2 < l.length /\ (s.1 = false -> s.2.1 < p.length) /\ (s.1 = true -> s.2.1 < m.length)
theorem Ch.app (hl0:∀ r,r ∈ l0 -> r.length = n.toNat) (hT:tok n l = true) (hp:p.all (inU n) = true) (h:Ch n.toNat p m l0 l σ) {s:St} (hs:bap l p m s) (he:(du n l p m s).2.2 = 0) :
 (du n l p m s).1 = n /\ ∃ σ',Ch n.toNat p m l0 (du n l p m s).2.1 σ':=by
 obtain ⟨mu,i,a,b⟩:=s;obtain ⟨ha,hb,hf,hv⟩:=hs;obtain ⟨h0,h1,h2,h3⟩:=j2 hT;have ha:a < l.length:=ha;have hb:b < l.length:=hb;have hra:=h3 a ha;have hrb:=h3 b hb
 cases mu with
 | false =>
  have hi:i < p.length:=hf rfl;have e0:du n l p m (false,i,a,b) = fdE n l a b (p.getD i default):=rfl;rw [e0] at he ⊢;by_cases hg:k8 (l.getD a default) (l.getD b default) (p.getD i default).lhs = true
  · have e1:fdE n l a b (p.getD i default) = (n,av (dv l (Go.Hx.eqMs (ca l) a b (aj (p.getD i default).rhs))),0):=if_pos hg
    rw [e1];refine ⟨rfl, ?_⟩;have hu:inU n (p.getD i default) = true:=bkk.1 hp _ (dn hi);have hm:=a7s (p:=p) (m:=m) hl0;have hR:=hm.fd (dn hi) (h.rows _ (dn ha)) (h.rows _ (dn hb)) (asj hl0 hg)
    obtain ⟨σ',hσ⟩:=Ch.eqMs (p:=p) (m:=m) hl0 ha hb (js:=aj (p.getD i default).rhs) (M:=ca l) (σ:=σ) (by rw [an3];exact h) fun j hj=>by
     have h4:=a7x h0 h1 hu hj;have h5:=jc.1 hj;refine ⟨Nat.lt_of_lt_of_eq h4 hra.symm,Nat.lt_of_lt_of_eq h4 hrb.symm,hR j (Nat.lt_of_lt_of_eq h4 hra.symm) (by rw [j1 h5.1];exact h5.2)⟩
    exact ⟨σ',hσ.congr fun r=>gi⟩
  have e1:fdE n l a b (p.getD i default) = (0,[],1):=if_neg hg;rw [e1] at he;exact absurd he bns
 | true =>
  have hi:i < m.length:=hv rfl;have e0:du n l p m (true,i,a,b) = mvE n l a b (m.getD i default):=rfl;rw [e0] at he ⊢;by_cases hg:k8 (l.getD a default) (l.getD b default) (m.getD i default).lhs = true
  · have e1:mvE n l a b (m.getD i default) = vv n l (dw (l.getD a default) (l.getD b default) ((m.getD i default).lhs ||| (m.getD i default).rhs)):=if_pos hg
    rw [e1] at he ⊢;by_cases hbig:256 < (av (l ++ [dw (l.getD a default) (l.getD b default) ((m.getD i default).lhs ||| (m.getD i default).rhs)])).length
    · have e2:vv n l (dw (l.getD a default) (l.getD b default) ((m.getD i default).lhs ||| (m.getD i default).rhs)) = (0,[],3):=if_pos hbig
      rw [e2] at he;exact absurd he bns
    have e2:vv n l (dw (l.getD a default) (l.getD b default) ((m.getD i default).lhs ||| (m.getD i default).rhs)) = (n,av (l ++ [dw (l.getD a default) (l.getD b default) ((m.getD i default).lhs ||| (m.getD i default).rhs)]),0):=if_neg hbig;rw [e2];refine ⟨rfl,σ, ?_⟩;have hm:=a7s (p:=p) (m:=m) hl0;have hR:=hm.mv (dn hi) (h.rows _ (dn ha)) (h.rows _ (dn hb)) (asj hl0 hg);refine ⟨fun r hr=>?_,h.sym,fun r hr=>gi.2 (bju _ (h.img r hr)),fun r hr z hz=>?_,h.le⟩
    · rcases bjw.1 (gi.1 hr) with h4 | h4
      · exact h.rows r h4
      rw [bjy.1 h4];exact hR
    rcases bjw.1 (gi.1 hr) with h4 | h4
    · exact h.fix r h4 z hz
    rw [bjy.1 h4] at hz
    rcases ay9 bnl hz with h5 | h5
    · exact h.fix _ (dn ha) z h5
    exact h.fix _ (dn hb) z h5
  have e1:mvE n l a b (m.getD i default) = (0,[],1):=if_neg hg;rw [e1] at he;exact absurd he bns
def abw {P:Nat -> Nat -> Nat -> Bool} {I L:Nat} (h:ff P I L = none) {i a b:Nat} (hi:i < I) (ha:a < L) (hb:b < L):P i a b = false:=by
 unfold ff at h;rw [bm1] at h;have h1:=h i (bjs.2 hi);rw [bm1] at h1;have h2:=h1 a (bjs.2 ha);rw [Option.map_eq_none_iff,bmq] at h2;exact bjp.2 (h2 b (bjs.2 hb))
def awc (h:dz l p m = none):(∀ i,i < p.length -> ∀ a,a < l.length -> ∀ b,b < l.length -> eu l (p.getD i default) a b = false) /\ ∀ i,i < m.length -> ∀ a,a < l.length -> ∀ b,b < l.length -> ey l (m.getD i default) a b = false:=by
 unfold dz at h;split at h
 · cases h
 rename_i e;rw [Option.map_eq_none_iff] at h;exact ⟨fun i hi a ha b hb=>abw (P:=fun i a b=>eu l (p.getD i default) a b) e hi ha hb,fun i hi a ha b hb=>abw (P:=fun i a b=>ey l (m.getD i default) a b) h hi ha hb⟩
def za {α:Type} [Inhabited α] {l:List α} {x:α} (h:x ∈ l):∃ i,i < l.length /\ l.getD i default = x:=by
 obtain ⟨i,hi,rfl⟩:=bk4 h;exact ⟨i,hi,by rw [bjd,bjc hi];rfl⟩
def axt {a b:Rw} {s:AS} (hl:a.length = b.length):dw (a.map f) (b.map f) s = (dw a b s).map f:=by
 unfold dw;rw [List.map_map,bk0];refine bls fun i hi=>?_;have hi:=bjs.1 hi;show _ = f (if dl s (i:Int) = true then a.getD i default else b.getD i default);split
 · rw [ke bnl]
 rw [ke hi]
theorem Ch.mdl (hT:tok n l = true) (hn:dz l p m = none) (σ:Int -> Int):Mdl n.toNat p m (fun x y=>σ x = σ y) (fun r=>r.length = n.toNat /\ r.map σ ∈ l):=by
 obtain ⟨hF,hM⟩:=awc hn;refine ⟨fun _=>rfl,fun h=>h.symm,fun h k=>h.trans k,fun h=>h.1,fun {r r'} h e h2=>⟨e.trans h.1, ?_⟩,fun {x} hx {a b} ha hb hl i hi hs=>?_,fun {x} hx {a b} ha hb hl=>⟨(p8 _ _ _).trans hb.1, ?_⟩⟩
 · have:r'.map σ = r.map σ:=by
    refine pl (by simp [e]) fun i hi=>?_;rw [bk0] at hi;rw [ke hi,ke bnl];exact (h2 i bnl).symm
   rw [this];exact h.2
 · obtain ⟨k,hk,rfl⟩:=za hx
   obtain ⟨ia,hia,ea⟩:=za ha.2;obtain ⟨ib,hib,eb⟩:=za hb.2;have h1:=hF k hk ia hia ib hib;unfold eu at h1;rw [ea,eb,a21 (fun j hj hs=>by rw [bk0] at hj;rw [ke hj,ke (by rw [hb.1,<- ha.1];exact hj)];exact hl j hj hs),blm,Bool.not_eq_false'] at h1;have h2:=of_decide_eq_true h1 i (by rw [bk0];exact hi) hs;rw [ke hi,ke (by rw [hb.1,<- ha.1];exact hi)] at h2;exact h2
 obtain ⟨k,hk,rfl⟩:=za hx;obtain ⟨ia,hia,ea⟩:=za ha.2;obtain ⟨ib,hib,eb⟩:=za hb.2;have h1:=hM k hk ia hia ib hib;unfold ey at h1;rw [ea,eb,a21 (fun j hj hs=>by rw [bk0] at hj;rw [ke hj,ke (by rw [hb.1,<- ha.1];exact hj)];exact hl j hj hs),blm,Bool.not_eq_false'] at h1;obtain ⟨r,hr,e⟩:=bke.1 h1;rw [<- axt (by rw [ha.1,hb.1]),<- of_decide_eq_true e];exact hr
theorem Ch.has (h:Ch n.toNat p m l0 l σ) (hT:tok n l = true) (hl0:∀ r,r ∈ l0 -> r.length = n.toNat) (hn:dz l p m = none):(∀ x y,LE n.toNat p m l0 x y -> σ x = σ y) /\ ∀ r,LR n.toNat p m l0 r -> r.map σ ∈ l:=by
 have hm:=Ch.mdl (p:=p) (m:=m) hT hn σ;have hl:∀ r,r ∈ l0 -> r.length = n.toNat /\ r.map σ ∈ l:=fun r hr=>⟨hl0 r hr,h.img r hr⟩;exact ⟨fun x y e=>e _ _ hm hl,fun r e=>(e _ _ hm hl).2⟩
def ada:∀ {r:Rw},(∀ z,z ∈ r -> f z = z) -> r.map f = r
 | [],_=>rfl
 | z :: r,h=>by rw [bkt,h z bnp,ada fun y hy=>h y (by simp [hy])]
theorem Ch.mem (h:Ch n.toNat p m l0 l σ) (hT:tok n l = true) (hl0:∀ r,r ∈ l0 -> r.length = n.toNat) (hn:dz l p m = none) {r:Rw}:r ∈ l <-> LR n.toNat p m l0 r /\ r.map σ = r:=by
 constructor
 · intro hr
   exact ⟨h.rows r hr,ada (h.fix r hr)⟩
 rintro ⟨h1,h2⟩;rw [<- h2];exact (h.has hT hl0 hn).2 r h1
end
end
end
section
def bew:List (List Int) -> List Rw
 | []=>[[]]
 | c :: cs=>c.flatMap fun z=>(bew cs).map fun r=>z :: r
section
variable {N:Nat} {p m:List Fd} {l0 l:List Rw}
def b66 {a b:Rw} {s:AS} {i:Nat} (h:i < b.length):(dw a b s).getD i default = if dl s (i:Int) = true then a.getD i default else b.getD i default:=by
 unfold dw;rw [bjd,bjz,bku h];rfl
def ayj (C:Nat -> List Int) (hd:∀ i j z,z ∈ C i -> z ∈ C j -> i = j):Mdl N p m (fun x y=>x = y \/ ∃ i,x ∈ C i /\ y ∈ C i) (fun r=>r.length = N /\ ∀ i,i < N -> r.getD i default ∈ C i) where
 refl _:=.inl rfl
 symm h:=by
  rcases h with h | ⟨i,h,k⟩
  · exact .inl h.symm
  exact .inr ⟨i,k,h⟩
 trans h h2:=by
  rcases h with h | ⟨i,h,k⟩
  · rw [h];exact h2
  rcases h2 with h2 | ⟨j,h2,k2⟩
  · rw [<- h2];exact .inr ⟨i,h,k⟩
  have:=hd i j _ k h2;subst this;exact .inr ⟨i,h,k2⟩
 len h:=h.1
 cong h e h2:=⟨e.trans h.1,fun i hi=>by
  have h3:=h.2 i hi
  rcases h2 i (by rw [h.1];exact hi) with h4 | ⟨j,h4,h5⟩
  · rw [<- h4];exact h3
  have:=hd i j _ h3 h4;subst this
  exact h5⟩
 fd _ a b ha hb _:=fun i hi _=>.inr ⟨i,ha.2 i (by rw [<- ha.1];exact hi),hb.2 i (by rw [<- ha.1];exact hi)⟩
 mv _ a b ha hb _:=⟨(p8 _ _ _).trans hb.1,fun i hi=>by
  rw [b66 (by rw [hb.1];exact hi)];split
  · exact ha.2 i hi
  exact hb.2 i hi⟩
def bfp (N:Nat) (p m:List Fd) (l0:List Rw):Prop:=∀ l,oq l -> (∀ r,r ∈ l -> LR N p m l0 r) -> l.length <= 256
end
section
variable {p m:List Fd} {l0 l:List Rw} {n:Int} {σ:Int -> Int}
def ao3 {s:St} (h:xg l p m s):bap l p m s:=by
 obtain ⟨h1,h2,h3⟩:=h;refine ⟨h1,h2,fun e=>?_,fun e=>?_⟩
 · rcases h3 with ⟨_,h,_⟩ | ⟨h,_⟩
   · exact h
   rw [e] at h;cases h
 rcases h3 with ⟨h,_⟩ | ⟨_,h,_⟩
 · rw [e] at h;cases h
 exact h
theorem Ch.code (h0:tok n l0 = true) (hS:bfp n.toNat p m l0) (hp:p.all (inU n) = true) (hT:tok n l = true) (h:Ch n.toNat p m l0 l σ) {s:St} (hs:xg l p m s):(du n l p m s).2.2 = 0:=by
 rcases ajr hT hp hs with e | ⟨l',e,_⟩
 · obtain ⟨mu,i,a,b⟩:=s
   obtain ⟨ha,hb,hs | hs⟩:=hs
   · obtain ⟨h1,h2,h3⟩:=hs
     cases h1;have h4:du n l p m (false,i,a,b) = fdE n l a b (p.getD i default):=rfl;have hg:=(asw hT (bkk.1 hp _ (dn h2)) ha hb h3).1;have hg:fdE n l a b (p.getD i default) = (n,fdL l a b (p.getD i default),0):=hg;rw [h4,hg] at e ⊢
   obtain ⟨h1,h2,h3⟩:=hs;cases h1;have h4:du n l p m (true,i,a,b) = mvE n l a b (m.getD i default):=rfl;have h5:ey l (m.getD i default) a b = true:=h3;unfold ey at h5;rw [bjm] at h5;have h6:mvE n l a b (m.getD i default) = vv n l (dw (l.getD a default) (l.getD b default) ((m.getD i default).lhs ||| (m.getD i default).rhs)):=if_pos h5.1;have hl0:∀ r,r ∈ l0 -> r.length = n.toNat:=fun r hr=>(y6 h0 r hr).1
   have h7:=hS (av (l ++ [dw (l.getD a default) (l.getD b default) ((m.getD i default).lhs ||| (m.getD i default).rhs)])) (ik _) fun r hr=>by
    rcases bjw.1 (gi.1 hr) with h8 | h8
    · exact h.rows r h8
    rw [bjy.1 h8];exact (a7s hl0).mv (dn h2) (h.rows _ (dn ha)) (h.rows _ (dn hb)) (asj hl0 h5.1)
   rw [h4,h6];unfold vv;rw [if_neg bnl]
 rw [e]
def TrZ (n:Int) (p m:List Fd) (lend:List Rw):List Rw -> List St -> Prop
 | l,[]=>l = lend
 | l,s :: r=>tok n l = true /\ xg l p m s /\ ∃ l',du n l p m s = (n,l',0) /\ ¬ l' = l /\ TrZ n p m lend l' r
end
def stC (n:Int) (ps:List AS) (c:Nat):List Int:=if c < n.toNat then (List.range ps.length).map fun i=>stV n i (ps.getD i default) c else []
section
variable {n:Int} {ps:List AS} {p m:List Fd}
def b7f (h0:0 <= n) {i c:Nat} {q:AS} (hc:c < n.toNat):stV n i q c % n = (c:Int):=by
 unfold stV;split
 · exact Int.emod_eq_of_lt bnl bnl
 have e:n + (i:Int) * n + (c:Int) = (c:Int) + n * (1 + (i:Int)):=by rw [Int.mul_add,Int.mul_one,Int.mul_comm (i:Int) n];omega
 rw [e,Int.add_mul_emod_self_left];exact Int.emod_eq_of_lt bnl bnl
def af9 (h0:0 <= n) {c:Nat} {z:Int} (h:z ∈ stC n ps c):c < n.toNat /\ z % n = (c:Int):=by
 unfold stC at h;split at h
 · rename_i hc
   obtain ⟨i,_,rfl⟩:=bkg.1 h;exact ⟨hc,b7f h0 hc⟩
 simp at h
def b47 (h0:0 <= n):∀ i j z,z ∈ stC n ps i -> z ∈ stC n ps j -> i = j:=fun i j z h k=>by
 have h1:=(af9 h0 h).2;have h2:=(af9 h0 k).2;omega
def ack {r:Rw} (hr:r ∈ bj n ps):r.length = n.toNat /\ ∀ i,i < n.toNat -> r.getD i default ∈ stC n ps i:=by
 unfold bj at hr;obtain ⟨k,hk,rfl⟩:=bkg.1 hr;refine ⟨adv _ _ _,fun i hi=>?_⟩;rw [aid hi];unfold stC;rw [if_pos hi];exact bkg.2 ⟨k,hk,rfl⟩
end
end
section
section
variable {n:Int} {ps:List AS} {p m:List Fd} {l l0:List Rw} {σ:Int -> Int}
def bc8 {N:Nat} {l l':List Rw} (h:∀ r,r ∈ l <-> r ∈ l') {r:Rw}:LR N p m l r <-> LR N p m l' r :=
 ⟨fun k E R hm hl=>k E R hm fun r hr=>hl r ((h r).1 hr),fun k E R hm hl=>k E R hm fun r hr=>hl r ((h r).2 hr)⟩
def att (h0:0 <= n) {c:Nat} {z:Int} (h:z ∈ stC n ps c):z = (c:Int) \/ n <= z:=by
 unfold stC at h;split at h
 · obtain ⟨i,_,rfl⟩:=bkg.1 h
   unfold stV;split
   · exact .inl rfl
   right;have:=Int.mul_nonneg (show (0:Int) <= (i:Int) by omega) h0;omega
 simp at h
theorem Ch.first (h0:0 <= n) (h:Ch n.toNat p m (av (bj n ps)) l σ):(d7 n).map σ = d7 n:=by
 refine ada fun z hz=>?_;unfold d7 at hz;obtain ⟨c,hc,rfl⟩:=bkg.1 hz;have hc:=bjs.1 hc;have h1:=h.sym (c:Int) _ _ (ayj (stC n ps) (b47 h0)) fun r hr=>ack (gi.1 hr)
 rcases h1 with h1 | ⟨i,h1,h2⟩
 · exact h1.symm
 have h3:=(af9 h0 h1).2;have h4:=Int.emod_eq_of_lt (a:=(c:Int)) (b:=n) bnl bnl;have h5:i = c:=by omega
 subst h5;have h6:=h.le (i:Int)
 rcases att h0 h2 with h7 | h7
 · exact h7
 omega
def swI (n z:Int):Int:=if n <= z /\ z < 2 * n then z + n else if 2 * n <= z /\ z < 3 * n then z - n else z
abbrev bj1 (n:Int) (x:Fd):Fd:=⟨x.lhs,a8 n &&& ~~~(x.lhs ||| x.rhs)⟩
end
end
section
section
variable {n:Int} {p m:List Fd} {l0 l:List Rw} {σ:Int -> Int}
def b02 (hT:tok n l = true) (hp:p.all (inU n) = true) (hm:m = []) {s:St} (hs:xg l p m s):(du n l p m s).2.2 = 0:=by
 obtain ⟨mu,i,a,b⟩:=s;obtain ⟨ha,hb,hs | hs⟩:=hs
 · obtain ⟨h1,h2,h3⟩:=hs
   cases h1;have h4:du n l p m (false,i,a,b) = fdE n l a b (p.getD i default):=rfl;have hg:fdE n l a b (p.getD i default) = (n,fdL l a b (p.getD i default),0):=(asw hT (bkk.1 hp _ (dn h2)) ha hb h3).1;rw [h4,hg]
 obtain ⟨_,h2,_⟩:=hs;subst hm;exact absurd h2 (bjh _)
def aup (hl0:∀ r,r ∈ l0 -> r.length = n.toNat) (hp:p.all (inU n) = true) (Z:List Int):∀ (F:Nat) (l:List Rw) (acc:List St) (σ:Int -> Int),tok n l = true -> Ch n.toNat p m l0 l σ -> Cov Z l -> muC Z l < F ->
 (ig F n l p m acc = ([],(0,[]),3) /\ ¬ m = []) \/ ∃ sts lend σ',ig F n l p m acc = (acc ++ sts,(n,lend),0) /\ Ch n.toNat p m l0 lend σ' /\ tok n lend = true /\ dz lend p m = none /\ TrZ n p m lend l sts:=by
 intro F
 induction F with
 | zero=>intro _ _ _ _ _ _ h;exact absurd h (bjh _)
 | succ F ih =>
  intro l acc σ hT hC hZ hF
  cases hn:dz l p m with
  | none=>exact .inr ⟨[],l,σ,by rw [ac5 bnl hn,bkd],hC,hT,hn,rfl⟩
  | some s =>
   have hs:=a7q hn
   rcases ajr hT hp hs with e | ⟨l',e,hT',h3⟩
   · left
     refine ⟨abu bnl hn e bns,fun hm=>?_⟩;have:=b02 hT hp hm hs;rw [e] at this;exact absurd this bns
   obtain ⟨h4,h5⟩:=h3 Z hZ;obtain ⟨_,σ',hC'⟩:=Ch.app hl0 hT hp hC (ao3 hs) (by rw [e]);rw [e] at hC'
   rcases ih l' (acc ++ [s]) σ' hT' hC' h4 bnl with ⟨q,q0⟩ | ⟨sts,lend,σ2,q1,q2,q3,q4,q5⟩
   · left
     exact ⟨by rw [a16 bnl hn e,Nat.add_sub_cancel,q],q0⟩
   right;refine ⟨s :: sts,lend,σ2, ?_,q2,q3,q4,hT,hs,l',e,fun e=>?_,q5⟩
   · rw [a16 bnl hn e,Nat.add_sub_cancel,q1,bkn]
     rfl
   subst e;omega
def at1 (hT:tok n l = true) (hb:be n p m = 0):(iz FU n l p m = ([],(0,[]),3) /\ ¬ m = []) \/ ∃ sts lend σ,iz FU n l p m = (sts,(n,lend),0) /\ Ch n.toNat p m l lend σ /\ tok n lend = true /\ dz lend p m = none /\ TrZ n p m lend l sts:=by
 have hck:ckE n l p m = 0:=(if_pos hT).trans hb;rw [uq hck]
 rcases aup (fun r hr=>(y6 hT r hr).1) (ji hb).2.2.2.1 l.flatten FU l [] id hT Ch.start (al5 l) (alo hT) with h | ⟨sts,lend,σ',q1,q⟩
 · exact .inl h
 exact .inr ⟨sts,lend,σ',by rw [q1,bn6],q⟩
def trL (n:Int) (p m:List Fd):List Rw -> List St -> List (List Rw)
 | l,[]=>[l]
 | l,s :: r=>l :: trL n p m (du n l p m s).2.1 r
def a2n:∀ {sts:List St} {l:List Rw},(trL n p m l sts).length = sts.length + 1
 | [],_=>rfl
 | s :: r,l=>by unfold trL;rw [bk5,a2n,bk5]
def ak4:∀ {sts:List St} {l lend:List Rw},TrZ n p m lend l sts -> lend ∈ trL n p m l sts
 | [],l,lend,h=>by
  have h:l = lend:=h;subst h;simp [trL]
 | s :: r,l,lend,h=>by
  obtain ⟨_,_,l',e,_,h⟩:=h;unfold trL;rw [e];exact bkp _ (ak4 h)
def ata (hl0:∀ r,r ∈ l0 -> r.length = n.toNat) (hp:p.all (inU n) = true):∀ {sts:List St} {l lend:List Rw} {σ:Int -> Int},TrZ n p m lend l sts -> tok n lend = true -> Ch n.toNat p m l0 l σ -> ∀ t,t ∈ trL n p m l sts -> ∃ σ,Ch n.toNat p m l0 t σ
 | [],l,lend,σ,h,_,hC,t,ht=>by
  rw [bjy.1 (show t ∈ [l] from ht)];exact ⟨σ,hC⟩
 | s :: r,l,lend,σ,h,hTe,hC,t,ht=>by
  obtain ⟨hT,hs,l',e,_,h⟩:=h;unfold trL at ht;rw [e] at ht
  rcases bjq.1 ht with rfl | ht
  · exact ⟨σ,hC⟩
  obtain ⟨_,σ',hC'⟩:=Ch.app hl0 hT hp hC (ao3 hs) (by rw [e]);rw [e] at hC';exact ata hl0 hp h hTe hC' t ht
end
section
variable {n:Int} {ps:List AS} {p m:List Fd}
def abh (h0:0 <= n) (h16:n <= 16) (hk:ps.length <= 64):tok n (av (bj n ps)) = true:=by
 refine a6i h0 h16 ?_ fun r hr=>?_
 · have:=a0n (bj n ps)
   rw [pj] at this;omega
 obtain ⟨h1,h2⟩:=ack hr;refine ⟨h1,fun z hz=>?_⟩;obtain ⟨i,hi,rfl⟩:=za hz
 rcases att h0 (h2 i bnl) with h3 | h3 <;> omega
def avh (hk:ps.length <= 64) (hb:be n p m = 0) :
 (iz FU n (av (bj n ps)) p m = ([],(0,[]),3) /\ ¬ m = []) \/ ∃ sts lend,iz FU n (av (bj n ps)) p m = (sts,(n,lend),0) /\ (d7 n ∈ lend <-> LR n.toNat p m (bj n ps) (d7 n)) /\
  TrZ n p m lend (av (bj n ps)) sts /\ tok n lend = true /\ ((∃ t,t ∈ trL n p m (av (bj n ps)) sts /\ d7 n ∈ t) <-> d7 n ∈ lend):=by
 obtain ⟨h0,h16,_,hp,_⟩:=ji hb;have hT:=abh h0 h16 hk;have hl0:∀ r,r ∈ av (bj n ps) -> r.length = n.toNat:=fun r hr=>(y6 hT r hr).1
 rcases at1 hT hb with h | ⟨sts,lend,σ,h1,h2,h3,h4,h5⟩
 · exact .inl h
 right
 have hf:d7 n ∈ lend <-> LR n.toNat p m (av (bj n ps)) (d7 n):=by
  rw [h2.mem h3 hl0 h4];exact ⟨fun h=>h.1,fun h=>⟨h,h2.first h0⟩⟩
 refine ⟨sts,lend,h1,by rw [hf,bc8 (l':=bj n ps) fun r=>gi],h5,h3, ?_⟩;constructor
 · rintro ⟨t,ht,hft⟩
   obtain ⟨σ',hC⟩:=ata hl0 hp h5 h3 Ch.start t ht;exact hf.2 (hC.rows _ hft)
 intro h;exact ⟨lend,ak4 h5,h⟩
end
end
section
section
variable {n:Int} {l:List Fd}
def apu (h:bh n l = 0):∀ f ∈ l,sub f.lhs (a8 n) /\ sub f.rhs (a8 n):=fun f hf=>by
 obtain ⟨h0,h1,_,h3⟩:=fv h;exact (ph h0 h1).1 (bkk.1 h3 f hf)
def an4 (h:bh n l = 0):sk l (a8 n):=fun f hf _=>(apu h f hf).2
def b14 (h:bh n l = 0) {x:AS} (hx:sub x (a8 n)):sub (clo l x) (a8 n):=a4t (an4 h) hx
end
def ui {α β:Type} [Inhabited α] {f:α -> β} {l:List α} {i:Nat} (h:i < l.length):(l.take (i + 1)).map f = (l.take i).map f ++ [f (l.getD i default)]:=by
 rw [au h,bln];rfl
structure Dps where
 n:BitVec 8
 l:List Dp
deriving Inhabited
def Dps.num (d:Dps):Int:=((d.n.toNat % 7:Nat):Int)
def Dps.fds (d:Dps):List Fd:=d.l.map (Dp.fd d.num)
def Dps.c (d:Dps):Nat -> PV
 | 0=>.raw (.int .u8 (d.n.toNat:Int))
 | 1=>dpl d.l
 | _=>.any
abbrev Dps.pc (d:Dps):PC:=.agg [d.c 0,d.c 1]
end
section
def noA (s:AS) (a:Nat):AS:=s &&& ~~~((1:AS) <<< a)
def ahp (s:AS) (a:Nat) {b:Int} (h:b.toNat = a):al .andNot .u32 (asI s) (IntKind.wrap .u32 (1 * 2 ^ (min b.toNat 32))) = asI (noA s a):=by
 rw [h];exact a6w s a
def av4 (n:Int) (l:List Fd) (s:AS) (a:Nat):AS:=if l5 n l (noA s a) = true then noA s a else s
def pi (n:Int) (l:List Fd) (s:AS) (k:Nat):AS:=(List.range k).foldl (fun s j=>av4 n l s (n.toNat - 1 - j)) s
def aci (n:Int) (l:List Fd) (s:AS) (k:Nat):pi n l s (k + 1) = av4 n l (pi n l s k) (n.toNat - 1 - k):=by
 unfold pi;rw [bl4,bki];rfl
section
variable {l:List Fd} {n:Int} {s:AS}
def aos {k:Nat} (h:l5 n l (noA (pi n l s k) (n.toNat - 1 - k)) = true):pi n l s (k + 1) = noA (pi n l s k) (n.toNat - 1 - k):=by
 rw [aci];exact if_pos h
def api {k:Nat} (h:l5 n l (noA (pi n l s k) (n.toNat - 1 - k)) = false):pi n l s (k + 1) = pi n l s k:=by
 rw [aci];exact if_neg (by rw [h];decide)
def rkE (n:Int) (l:List Fd) (s:AS):Int:=if bh n l = 0 then (if l5 n l s = true then 0 else 1) else bh n l
def rkS (n:Int) (l:List Fd) (s:AS):AS:=if rkE n l s = 0 then pi n l s n.toNat else 0
def bg3 (h:¬ bh n l = 0):rkS n l s = 0 /\ rkE n l s = bh n l:=by
 have e:rkE n l s = bh n l:=if_neg h;exact ⟨if_neg (by rw [e];exact h),e⟩
def bht (h:bh n l = 0) (h2:l5 n l s = false):rkS n l s = 0 /\ rkE n l s = 1:=by
 have e:rkE n l s = 1:=by unfold rkE;rw [if_pos h,if_neg (by rw [h2];decide)]
 exact ⟨if_neg (by rw [e];decide),e⟩
def bcu (h:bh n l = 0) (h2:l5 n l s = true):rkS n l s = pi n l s n.toNat /\ rkE n l s = 0:=by
 have e:rkE n l s = 0:=by unfold rkE;rw [if_pos h,if_pos h2]
 exact ⟨if_pos e,e⟩
def be6 (n:Int) (l:List Fd) (s:AS):Bool:=l5 n l s && (List.range n.toNat).all fun a=>!(s.getLsbD a && l5 n l (noA s a))
def bfe (n:Int) (l:List Fd) (i:Nat):List AS:=((List.range i).map (BitVec.ofNat 32)).filter (be6 n l)
def b21 (n:Int) (l:List Fd):List AS:=if bh n l = 0 then ord (bfe n l (2 ^ n.toNat)) else []
def b9p (h0:0 <= n) (h1:n <= 16):asI (a8 n) + 1 = (2 ^ n.toNat:Nat) /\ 2 ^ n.toNat <= 65536:=by
 have h2:2 ^ n.toNat <= 2 ^ 16:=blz bnl bnl;have h3:0 < 2 ^ n.toNat:=bn7 _;unfold a8 asI;rw [a8o (Nat.min_le_right _ _),blc bnl];omega
end
end
section
open Go.Proofs
def b7a (n:Int) (l:List Fd) (s:AS):a6 bo6 73 [pI n,pP (fdl l),pA s] (a7 [pA (rkS n l s),pI (rkE n l s)]):=by
 refine hpx (nt:=38) Tryz.func73 ?_;refine c7 ?_;refine qcx uy (z8 n l) ?_;refine w_7 ?_;refine hcn (fun h0=>?_) (fun h0=>?_)
 · refine w_6 ?_;refine hrr ?_;have he:=bg3 (s:=s) h0;exact f9 rfl rfl (⟨cci (congrArg asI he.1.symm),cci he.2.symm,trivial⟩)
 refine w_7 ?_;refine qcx abp (aht n l s) ?_;refine w_2 ?_;refine hcv (fun h1=>?_) (fun h1=>?_)
 · refine w_5 ?_;refine hrr ?_;have he:=bht h0 bnm;exact f9 rfl rfl (⟨cci (congrArg asI he.1.symm),cci he.2.symm,trivial⟩)
 refine w_3 ?_;have hv:=fv h0;refine w_6 ?_;refine bg (ka 0 (ka 1 kn)) km (fun k=>⟨[(2,some (vA (pi n l s k))),(9,some (vI (n - 1 - (k:Int))))],[]⟩) n.toNat ⟨⟨zy,⟨_,rfl,(coi bnl)⟩,trivial⟩,trivial⟩ ?_;rintro k hk;refine w_6 ?_;refine hcd (fun h2=>?_) (fun h2=>?_)
 ·
  refine sh ?_;refine rc rfl rfl rfl rfl rfl rfl abp (aht n l (noA (pi n l s k) (n.toNat - 1 - k))) (⟨CoC.refl _,CoC.refl _,cci (ahp _ _ bnl),trivial⟩) rfl rfl ?_;refine c5 ?_;refine hcb (fun h3=>?_) (fun h3=>?_)
  ·
   refine w_9 ?_
   first | (refine ⟨k + 1, ?_, ?_, ?_⟩
            · show k + 1 <= _;omega
            · first | omega | (dsimp only;omega)
            exact ⟨⟨⟨_,rfl,(br ((ahp _ (n.toNat - 1 - k) bnl).trans (congrArg asI (aos bnm).symm)))⟩,⟨_,rfl,(coi bnl)⟩,tt⟩,trivial⟩)
         | (refine ⟨k + 1, ?_, ?_, ?_⟩
            · show k + 1 <= _;omega
            · first | omega | (dsimp only;omega)
            exact ⟨⟨⟨_,rfl,(br (by rw [api bnm]))⟩,⟨_,rfl,(coi bnl)⟩,tt⟩,trivial⟩)
  refine w_6 ?_
  first | (refine ⟨k + 1, ?_, ?_, ?_⟩
           · show k + 1 <= _;omega
           · first | omega | (dsimp only;omega)
           exact ⟨⟨⟨_,rfl,(br ((ahp _ (n.toNat - 1 - k) bnl).trans (congrArg asI (aos bnm).symm)))⟩,⟨_,rfl,(coi bnl)⟩,tt⟩,trivial⟩)
        | (refine ⟨k + 1, ?_, ?_, ?_⟩
           · show k + 1 <= _;omega
           · first | omega | (dsimp only;omega)
           exact ⟨⟨⟨_,rfl,(br (by rw [api bnm]))⟩,⟨_,rfl,(coi bnl)⟩,tt⟩,trivial⟩)
 refine w_7 ?_;refine hrr ?_;have he:=bcu h0 bnm;obtain rfl:k = n.toNat:=by omega
 exact f9 rfl rfl (⟨cci (congrArg asI he.1.symm),cci he.2.symm,trivial⟩)
end
section
def bC:Bool -> Nat -> PV:=fun b _=>.raw (.bool b)
def az1 (n:Int) (l:List Fd) (k:Nat):Bool:=decide (clo l (BitVec.ofNat 32 k) = a8 n)
def bgo (n:Int) (l:List Fd) (i:Nat):List Bool:=(List.range (2 ^ n.toNat)).map fun k=>decide (k < i) && az1 n l k
def bj6 (n:Int) (l:List Fd):List Bool:=bgo n l (2 ^ n.toNat)
end
section
section
variable {n:Int} {l:List Fd}
def okA (n:Int) (l:List Fd) (i a:Nat):Bool:=az1 n l i && (List.range a).all fun b=>!(i.testBit b && az1 n l (i ^^^ 2 ^ b))
section
variable {i a:Nat} (hv:bh n l = 0) (hi:i < 2 ^ n.toNat) (ha:(a:Int) < n) (hx:i ^^^ 2 ^ a < 2 ^ n.toNat)
include hv hi ha hx
end
end
end
section
def vw (s:AS):Nat -> AS -> List AS
 | 0,_=>[]
 | n + 1,x=>if x = 0 then [] else x :: vw s n ((x - 1) &&& s)
def f7 (s:AS):List AS:=0 :: vw s (s.toNat + 1) s
def sub_zero (s:AS):sub 0 s:=ar.2 fun i hi h=>by simp at h
section
variable {s:AS}
def agb:∀ (n:Nat) (x:AS),sub x s -> x.toNat < n -> ∀ z,z ∈ vw s n x <-> sub z s /\ z ≠ 0 /\ z.toNat <= x.toNat
 | 0,x,_,h,z=>absurd h (bjh _)
 | n + 1,x,hx,h,z=>by
  unfold vw;by_cases h0:x = 0
  · rw [if_pos h0]
    subst h0;constructor
    · intro h;cases h
    rintro ⟨_,h1,h2⟩;exact absurd (bka (Nat.le_antisymm h2 (bji _))) h1
  rw [if_neg h0,bjq,agb n _ a3s (by have:=pn (s:=s) h0;omega)];constructor
  · rintro (rfl | ⟨h1,h2,h3⟩)
    · exact ⟨hx,h0,bjg _⟩
    have:=pn (s:=s) h0;exact ⟨h1,h2,by omega⟩
  rintro ⟨h1,h2,h3⟩;by_cases he:z = x
  · exact .inl he
  have hne:z.toNat ≠ x.toNat:=fun e=>he (bka e);exact .inr ⟨h1,h2,a9v hx h1 bnl⟩
def x3 {z:AS}:z ∈ f7 s <-> sub z s:=by
 unfold f7;rw [bjq,agb _ _ (sub_self s) (Nat.lt_succ_self _)];constructor
 · rintro (rfl | h)
   · exact sub_zero s
   exact h.1
 intro h;by_cases h0:z = 0
 · exact .inl h0
 exact .inr ⟨h,h0,a07 h⟩
def TsI (s:AS) (x:Nat × List AS × AS):Prop:=x.2.1 ++ vw s x.1 x.2.2 = f7 s /\ x.2.2.toNat < x.1 /\ x.2.1.length + x.1 = s.toNat + 2
def b3c (s:AS):TsI s (s.toNat + 1,[0],s):=⟨rfl,Nat.lt_succ_self _,by dsimp only;rw [bkw];omega⟩
def b6e {x:Nat × List AS × AS} (h:TsI s x) (h0:x.2.2 ≠ 0):TsI s (x.1 - 1,x.2.1 ++ [x.2.2],(x.2.2 - 1) &&& s):=by
 obtain ⟨h1,h2,h3⟩:=h;obtain ⟨n,hn⟩:∃ n,x.1 = n + 1:=⟨x.1 - 1,by omega⟩;have hl:=pn (s:=s) h0;refine ⟨?_,by dsimp only;omega,by dsimp only;rw [bjj,bkw];omega⟩;rw [<- h1,hn];show (x.2.1 ++ [x.2.2]) ++ vw s n _ = _;rw [bkn]
 conv=>rhs;unfold vw
 rw [if_neg h0];rfl
def bcs {x:Nat × List AS × AS} (h:TsI s x) (h0:x.2.2 = 0):x.2.1 = f7 s:=by
 obtain ⟨h1,h2,h3⟩:=h;obtain ⟨n,hn⟩:∃ n,x.1 = n + 1:=⟨x.1 - 1,by omega⟩;rw [<- h1,hn];unfold vw;rw [if_pos h0,bkd]
def afx (s:AS):(f7 s).length <= 4294967297:=by
 have:∀ n x,(vw s n x).length <= n:=by
  intro n
  induction n with
  | zero=>intro x;exact bjg _
  | succ n ih =>
   intro x;unfold vw;split
   · simp
   rw [bk5];have:=ih ((x - 1) &&& s);omega
 have h1:=this (s.toNat + 1) s;have:=s.isLt;unfold f7;rw [bk5];omega
variable {r:AS}
def ba5 (h:r ≠ 0):r &&& (-r) = (1:AS) <<< i6 r:=by
 obtain ⟨h1,h2,h3,h4⟩:=vb h
 have e:-r = ~~~(r - 1):=by
  apply bka;have h0:r.toNat ≠ 0:=fun e=>h (bka e);have:=r.isLt;rw [BitVec.toNat_neg,BitVec.toNat_not,a3b h];omega
 rw [e];apply bkv;intro i hi;have h5:=congrArg (fun z:AS=>z.getLsbD i) h4;simp only [bjv,blg,decide_eq_true hi,blm] at h5;have h6:((1:AS) <<< i6 r).getLsbD i = decide (i = i6 r):=v8 _ i hi;rw [bjv,blg,decide_eq_true hi,blm,h6];rw [h6] at h5;by_cases hl:i = i6 r
 · subst hl
   rw [h2] at h5 ⊢;simpa using h5
 rw [decide_eq_false hl] at h5 ⊢;cases hr:r.getLsbD i <;> rw [hr] at h5 <;> simpa using h5
def beg (r:AS) (h:r ≠ 0) {a:Int} (ha:a = IntKind.wrap .u32 (0 - asI r)):al .and .u32 (asI r) a = asI ((1:AS) <<< i6 r):=by
 have e:a = asI (-r):=by
  rw [ha];have h0:r.toNat ≠ 0:=fun e=>h (bka e);have:=r.isLt;unfold asI;rw [BitVec.toNat_neg];simp only [IntKind.wrap,IntKind.signed,IntKind.bits];simp;omega
 rw [e,fc,ba5 h]
def mb (l:List Fd) (p s:AS):Bool:=decide (sub p (clo l s))
variable {l:List Fd} {p:AS}
def qt:decide (al .and .u32 (asI (clo l s)) (asI p) = asI p) = mb l p s:=by
 rw [fc,aat];unfold mb;refine decide_eq_decide.2 ⟨fun e=>?_,fun e=>?_⟩
 · rw [<- e];exact tk
 refine ep a5e (a5o e (im p))
def zb (l:List Fd) (p x:AS):Bool:=(List.range 32).all fun a=>!(x.getLsbD a && mb l p (noA x a))
variable {x:AS}
def bar {a:Nat} (ha:a < 32) (h:x.getLsbD a = true) (h2:mb l p (noA x a) = true):zb l p x = false:=by
 unfold zb;rw [List.all_eq_false];exact ⟨a,bjs.2 ha,by rw [h,h2];decide⟩
def bbi (h2:∀ a,a < 32 -> x.getLsbD a = true -> mb l p (noA x a) = false):zb l p x = true:=by
 unfold zb;rw [bkk];intro a ha
 cases hx:x.getLsbD a with
 | false=>rfl
 | true=>rw [h2 a (bjs.1 ha) hx];rfl
def af3 (l:List Fd) (p x r:AS):Prop:=sub r x /\ ∀ a,a < 32 -> x.getLsbD a = true -> r.getLsbD a = true \/ mb l p (noA x a) = false
def axq (l:List Fd) (p x:AS):af3 l p x x:=⟨im x,fun a _ h=>.inl h⟩
def b3g (h:af3 l p x r) (h0:r ≠ 0):i6 r < 32 /\ x.getLsbD (i6 r) = true:=by
 obtain ⟨h1,h2,_,_⟩:=vb h0;exact ⟨h1,ar.1 h.1 _ h1 h2⟩
def ay2 (h:af3 l p x r) (h0:r ≠ 0) (hf:mb l p (noA x (i6 r)) = false):af3 l p x (r &&& (r - 1)):=by
 obtain ⟨h1,h2,h3,h4⟩:=vb h0;rw [h4];refine ⟨gr tk h.1,fun a ha hx=>?_⟩
 rcases h.2 a ha hx with h5 | h5
 · by_cases hl:a = i6 r
   · subst hl;exact .inr hf
   refine .inl ?_;have h6:((1:AS) <<< i6 r).getLsbD a = decide (a = i6 r):=v8 _ a ha;rw [bjv,blg,decide_eq_true ha,blm,h5,h6,decide_eq_false hl];rfl
 exact .inr h5
def b2t (h:af3 l p x r) (h0:r = 0):zb l p x = true:=bbi fun a ha hx=>by
 rcases h.2 a ha hx with h5 | h5
 · subst h0;simp at h5
 exact h5
def bai (h:r ≠ 0):(r &&& (r - 1)).toNat < r.toNat:=by
 have h1:=a3b h;have h0:r.toNat ≠ 0:=fun e=>h (bka e);rw [bmc,h1];have:(r.toNat &&& (r.toNat - 1)) <= r.toNat - 1:=bmd;omega
def yw (l:List Fd) (p x:AS):Bool:=mb l p x && zb l p x
def nj (l:List Fd) (p:AS):AS:=orL ((f7 p).filter (yw l p))
def a1x {k:Nat}:∀ {ps:List AS} {s:AS},(ps.foldl (· ||| ·) s).getLsbD k = (s.getLsbD k || ps.any fun x=>x.getLsbD k)
 | [],s=>by simp
 | x :: ps,s=>by
  rw [blb,a1x,bky,List.any_cons,Bool.or_assoc]
def ay4 {a b:List AS} (h:∀ z,z ∈ a <-> z ∈ b):orL a = orL b:=by
 apply bkv;intro i hi;unfold orL;rw [a1x,a1x];congr 1;rw [blh,bke,bke];exact ⟨fun ⟨x,h1,h2⟩=>⟨x,(h x).1 h1,h2⟩,fun ⟨x,h1,h2⟩=>⟨x,(h x).2 h1,h2⟩⟩
def tz (l:List Fd) (p:AS) (i:Nat):AS:=orL (((f7 p).take i).filter (yw l p))
def aq5 (a:List AS) (x:AS):orL (a ++ [x]) = orL a ||| x:=by unfold orL;rw [bki];rfl
def aae {i:Nat} (hi:i < (f7 p).length) (h:yw l p ((f7 p).getD i default) = true):tz l p (i + 1) = tz l p i ||| (f7 p).getD i default:=by
 unfold tz;rw [au hi,bkq];simp only [bko,h,if_true,bl6];exact aq5 _ _
def vh {i:Nat} (hi:i < (f7 p).length) (h:yw l p ((f7 p).getD i default) = false):tz l p (i + 1) = tz l p i:=by
 unfold tz;rw [au hi,bkq];simp only [bko,h,bkr,if_false,bl6,bkd]
def ase (l:List Fd) (p:AS):tz l p (f7 p).length = nj l p:=by unfold tz nj;rw [bjk]
def abb (h:mb l p x = true) (h2:zb l p x = true):yw l p x = true:=by unfold yw;rw [h,h2];rfl
def a81 (h:mb l p x = false):yw l p x = false:=by unfold yw;rw [h];rfl
def a6r (h:zb l p x = false):yw l p x = false:=by unfold yw;rw [h];simp
end
end
section
open Go.Proofs
def ava (s:AS):a6 bo6 204 [pA s] (a7 [pP (asl (f7 s))]):=by
 refine hpx (nt:=18) Tryz.func204 ?_;refine w_6 ?_;refine m9 0 ?_;refine w_9 ?_;refine ae (ι:=Nat × List AS × AS) (ka 0 kn) km (fun x=>⟨[(3,some (.v (.one (.ref 0 x.2.1.length)))),(4,some (vA x.2.2))],[(0,some (.arr true 1 46 x.2.1.length (lf sC x.2.1)))]⟩) (fun x=>TsI s x) (fun x=>x.1) ((s.toNat + 1,[0],s)) (b3c s) ⟨tt,⟨⟨_,rfl,(zn (CoP.refl _))⟩,trivial⟩⟩ ?_;rintro x hx;have hlen:=hx.2;have hsl:=s.isLt;refine w_6 ?_;refine hcn (fun h0=>?_) (fun h0=>?_)
 ·
  have hne:x.2.2 ≠ 0:=fun e=>h0 (by rw [e];rfl);refine w_6 ?_;refine m9 1 ?_;refine r9 2 true ?_;refine w_4 ?_;refine rq rfl rfl rfl rfl rfl ?_ (hp:=(yz hne));refine w_4 ?_;refine ⟨(x.1 - 1,x.2.1 ++ [x.2.2],(x.2.2 - 1) &&& s), ?_, ?_, ?_⟩
  · exact b6e hx hne
  · dsimp only
    omega
  exact ⟨⟨⟨_,rfl,(bv rfl)⟩,⟨_,rfl,(br (zg hne))⟩,tt⟩,⟨⟨_,rfl,(bt rfl (CoP.refl _))⟩,trivial⟩⟩
 have hz:x.2.2 = 0:=c8.1 h0;refine w_6 ?_;refine aq 2 rfl rfl rfl ?_;exact hx8 rfl rfl rfl (⟨CoC.one (CoP.of_eq (by rw [<- bcs hx hz];rfl)),trivial⟩)
def beh (l:List Fd) (p x:AS):a6 bo6 238 [pP (fdl l),pA p,pA x] (a7 [pB (zb l p x)]):=by
 refine hpx (nt:=27) Tryz.func238 ?_;refine ct ?_;refine ae (ι:=AS) (ka 0 (ka 1 (ka 2 kn))) km (fun r=>⟨[(7,some (vA r))],[]⟩) (fun r=>af3 l p x r) (fun r=>r.toNat) (x) (axq l p x) kk ?_;rintro r hr;refine w_6 ?_;refine hcn (fun h0=>?_) (fun h0=>?_)
 ·
  have hne:r ≠ 0:=fun e=>h0 (by rw [e];rfl);have hlow:=b3g hr hne;refine w_9 ?_;refine rqw rfl rfl rfl rfl rfl ?_;refine w_2 ?_;refine rc rfl rfl rfl rfl rfl rfl t8 (x7 l (noA x (i6 r))) (⟨CoC.refl _,cci (by rw [beg r hne rfl,gk];rfl),trivial⟩) rfl rfl ?_;refine w_5 ?_;refine hcd (fun h1=>?_) (fun h1=>?_)
  · refine v_4 ?_;exact ⟨ccb (bar hlow.1 hlow.2 (qt.symm.trans (decide_eq_true bnm))).symm,trivial⟩
  refine w_4 ?_;refine rq rfl rfl rfl rfl rfl ?_ (hp:=(yz hne));refine w_3 ?_;refine ⟨r &&& (r - 1), ?_, ?_, ?_⟩
  · exact ay2 hr hne (qt.symm.trans (decide_eq_false bnm))
  · exact bai hne
  exact ⟨⟨⟨_,rfl,(br (alv hne))⟩,tt⟩,trivial⟩
 have hz:r = 0:=c8.1 h0;refine v_5 ?_;exact ⟨ccb (b2t hr hz).symm,trivial⟩
def b86 (l:List Fd) (p:AS):a6 bo6 203 [pP (fdl l),pA p] (a7 [pA (nj l p)]):=by
 refine hpx (nt:=33) Tryz.func203 ?_;refine c7 ?_;have htl:=afx p;refine w_2 ?_;refine qcx (wgx Tryz.func204) (ava p) ?_;refine w_4 ?_;refine bg (ka 0 (ka 1 (ka 9 (ka 10 kn)))) km (fun i=>⟨[(5,some (vA (tz l p i))),(11,some (vI i))],[]⟩) ((f7 p).length) ⟨⟨⟨_,rfl,(br rfl)⟩,tt⟩,trivial⟩ ?_;rintro i hi;refine w_5 ?_;refine hcd (fun h0=>?_) (fun h0=>?_)
 ·
  refine j9 ?_;refine qcx t8 (x7 l ((f7 p).getD i default)) ?_;refine w_5 ?_;refine ah rfl rfl (fun r1=>?_) (fun r1=>?_)
  ·
   have h1:=tz1 r1;(iterate 3 refine qy ?_ (hg:=(gtt r1)));refine qcx (wgx Tryz.func238) (beh l p ((f7 p).getD i default)) ?_ (hg:=(gtt r1));refine w_2 ?_;refine ak _ rfl (fun r2=>?_) (fun r2=>?_)
   · have h2:=bn r1 r2;refine c7 ?_;exact lpx (i + 1) ⟨⟨⟨_,rfl,(by first | exact br (by rw [bOr,aae bnl (abb (qt.symm.trans (decide_eq_true bnm)) bnm)];rfl) | exact br (by rw [vh bnl (a6r bnm)]) | exact br (by rw [vh bnl (a81 (qt.symm.trans (decide_eq_false bnm)))]))⟩,tt⟩,trivial⟩
   have h2:=bn r1 r2;refine w_5 ?_;exact lpx (i + 1) ⟨⟨⟨_,rfl,(by first | exact br (by rw [bOr,aae bnl (abb (qt.symm.trans (decide_eq_true bnm)) bnm)];rfl) | exact br (by rw [vh bnl (a6r bnm)]) | exact br (by rw [vh bnl (a81 (qt.symm.trans (decide_eq_false bnm)))]))⟩,tt⟩,trivial⟩
  have h1:=tz2 r1;(iterate 4 refine k9 (gft r1) ?_);refine rq rfl rfl rfl rfl rfl ?_ (hp:=r1);refine w_7 ?_
  exact lpx (i + 1) ⟨⟨⟨_,rfl,(by first | exact br (by rw [bOr,aae bnl (abb (qt.symm.trans (decide_eq_true bnm)) bnm)];rfl) | exact br (by rw [vh bnl (a6r bnm)]) | exact br (by rw [vh bnl (a81 (qt.symm.trans (decide_eq_false bnm)))]))⟩,tt⟩,trivial⟩
 obtain rfl:i = (f7 p).length:=by omega
 refine v_6 ?_;exact ⟨cci (by rw [ase]),trivial⟩
end
section
def zu (l:List Fd) (p x:AS) (a:Nat):Bool:=(List.range a).all fun b=>!(x.getLsbD b && mb l p (noA x b))
def a4m (l:List Fd) (p x:AS) (a:Nat):zu l p x (a + 1) = (zu l p x a && !(x.getLsbD a && mb l p (noA x a))):=by
 unfold zu;rw [bl4,List.all_append];simp only [List.all_cons,List.all_nil,Bool.and_true]
section
variable {l:List Fd} {p x:AS}
def aml {a:Nat} (ha:a < 32) (h:dl x a = true) (h2:mb l p (noA x a) = true):zu l p x (a + 1) = false:=by
 rw [j1 ha] at h;rw [a4m,h,h2];simp
def ad6 {a:Nat} (ha:a < 32) (h:dl x a = false):zu l p x (a + 1) = zu l p x a:=by
 rw [j1 ha] at h;rw [a4m,h];simp
def adg {a:Nat} (h:mb l p (noA x a) = false):zu l p x (a + 1) = zu l p x a:=by
 rw [a4m,h];simp
def aeq (i:Nat):List AS:=(List.range i).map (BitVec.ofNat 32)
def ag6 (i:Nat):aeq (i + 1) = aeq i ++ [BitVec.ofNat 32 i]:=by unfold aeq;rw [bl4,bln];rfl
def prQ (l:List Fd) (p x:AS):Bool:=decide (sub x p) && yw l p x
def jb (l:List Fd) (p:AS) (i:Nat):AS:=orL ((aeq i).filter (prQ l p))
def azb {i:Nat} (h:sub (BitVec.ofNat 32 i) p) (h2:mb l p (BitVec.ofNat 32 i) = true) (h3:zb l p (BitVec.ofNat 32 i) = true):jb l p (i + 1) = jb l p i ||| BitVec.ofNat 32 i:=by
 have e:prQ l p (BitVec.ofNat 32 i) = true:=by unfold prQ;rw [decide_eq_true h,abb h2 h3];rfl
 unfold jb;rw [ag6,bkq];simp only [bko,e,if_true,bl6];exact aq5 _ _
def a9e {i:Nat} (e:prQ l p (BitVec.ofNat 32 i) = false):jb l p (i + 1) = jb l p i:=by
 unfold jb;rw [ag6,bkq];simp only [bko,e,bkr,if_false,bl6,bkd]
def bdu (h:¬ sub x p):prQ l p x = false:=by unfold prQ;rw [decide_eq_false h];rfl
def bdv (h:mb l p x = false):prQ l p x = false:=by unfold prQ;rw [a81 h];simp
def bdy (h:zb l p x = false):prQ l p x = false:=by unfold prQ;rw [a6r h];simp
def b01 {i:Nat} (hi:i <= 4294967296):x ∈ aeq i <-> x.toNat < i:=by
 unfold aeq;rw [bkg];constructor
 · rintro ⟨k,hk,rfl⟩
   rw [bjs] at hk;rw [bn8,bma bnl];exact hk
 intro h;exact ⟨x.toNat,bjs.2 h,by rw [BitVec.ofNat_toNat,BitVec.setWidth_eq]⟩
def asc {i:Nat} (hp:i = p.toNat + 1):jb l p i = nj l p:=by
 have:=p.isLt;unfold jb nj;refine ay4 fun z=>?_;rw [blj,blj,b01 bnl,x3];unfold prQ;rw [bjm,decide_eq_true_iff];constructor
 · rintro ⟨_,h1,h2⟩;exact ⟨h1,h2⟩
 rintro ⟨h1,h2⟩;have:=a07 h1;exact ⟨by omega,h1,h2⟩
end
section
variable {l:List Fd} {p:AS} {i:Nat}
def a6y (hi:i < 4294967296):al .andNot .u32 (i:Int) (asI p) = 0 <-> sub (BitVec.ofNat 32 i) p:=by
 rw [ip hi];exact j6
def asf (hi:i < 4294967296) (h:¬ al .andNot .u32 (i:Int) (asI p) = 0):asI (jb l p i) = asI (jb l p (i + 1)):=congrArg asI (a9e (bdu fun e=>h ((a6y hi).2 e))).symm
def ar6 (h:decide (sub p (clo l (BitVec.ofNat 32 i))) = false):asI (jb l p i) = asI (jb l p (i + 1)):=congrArg asI (a9e (bdv h)).symm
def ar0 (h:zu l p (BitVec.ofNat 32 i) 32 = false):asI (jb l p i) = asI (jb l p (i + 1)):=congrArg asI (a9e (bdy h)).symm
def ar5 (hi:i < 4294967296) (h1:al .andNot .u32 (i:Int) (asI p) = 0) (h2:decide (sub p (clo l (BitVec.ofNat 32 i))) = true) (h3:zu l p (BitVec.ofNat 32 i) 32 = true):al .or .u32 (asI (jb l p i)) (i:Int) = asI (jb l p (i + 1)):=by
 rw [azb ((a6y hi).1 h1) h2 h3,ip hi,bOr]
end
def o0 (l:List Fd) (p x:AS):Bool:=!mb l p x && decide (((clo l x &&& p) &&& ~~~x) &&& ~~~nj l p ≠ 0)
def qp (l:List Fd) (p:AS):Bool:=!(f7 p).any (o0 l p)
section
variable {l:List Fd} {p:AS}
def aoe (h:∀ x,sub x p -> o0 l p x = false):qp l p = true:=by
 unfold qp
 have:(f7 p).any (o0 l p) = false:=by
  rw [bl5];intro x hx;rw [h x (x3.1 hx)];decide
 rw [this];rfl
variable {x:AS}
def aqc (hx:sub x p) (h:o0 l p x = true):qp l p = false:=by
 unfold qp
 have:(f7 p).any (o0 l p) = true:=by
  rw [bke];exact ⟨x,x3.2 hx,h⟩
 rw [this];rfl
def b2o:decide (al .andNot .u32 (al .andNot .u32 (al .and .u32 (asI (clo l x)) (asI p)) (asI x)) (asI (nj l p)) = 0) = decide (((clo l x &&& p) &&& ~~~x) &&& ~~~nj l p = 0):=by
 rw [fc,gk,gk,show (0:Int) = asI 0 from rfl,aat]
def a5d (h:mb l p x = true):o0 l p x = false:=by unfold o0;rw [h];rfl
def a6e (h:al .andNot .u32 (al .andNot .u32 (al .and .u32 (asI (clo l x)) (asI p)) (asI x)) (asI (nj l p)) = 0):o0 l p x = false:=by
 have e:=b2o.symm.trans (decide_eq_true h);unfold o0;rw [decide_eq_false (fun hn=>hn (of_decide_eq_true e))];simp
def b2n (h0:mb l p x = false) (h:¬ al .andNot .u32 (al .andNot .u32 (al .and .u32 (asI (clo l x)) (asI p)) (asI x)) (asI (nj l p)) = 0):o0 l p x = true:=by
 have e:=b2o.symm.trans (decide_eq_false h);unfold o0;rw [h0,decide_eq_true (of_decide_eq_false e)];rfl
def b1i (h:al .and .u32 (asI (clo l x)) (asI p) = asI p):mb l p x = true:=qt.symm.trans (decide_eq_true h)
def be9 (h:¬ al .and .u32 (asI (clo l x)) (asI p) = asI p):mb l p x = false:=qt.symm.trans (decide_eq_false h)
def ake {i:Nat} (hi:i < 4294967296) (h:¬ al .andNot .u32 (i:Int) (asI p) = 0):(decide (sub (BitVec.ofNat 32 i) p) && o0 l p (BitVec.ofNat 32 i)) = false:=by
 rw [decide_eq_false (fun e=>h ((a6y hi).2 e))];rfl
def a2a {b:Bool} (h:o0 l p x = false):(b && o0 l p x) = false:=by rw [h];simp
def b7x {i:Nat} (hi:i = p.toNat + 1) (h:∀ j,j < i -> (decide (sub (BitVec.ofNat 32 j) p) && o0 l p (BitVec.ofNat 32 j)) = false):qp l p = true:=aoe fun x hx=>by
 have:=h x.toNat (by have:=a07 hx;omega);rw [BitVec.ofNat_toNat,BitVec.setWidth_eq,decide_eq_true hx,blm] at this;exact this
def axs (h:∀ j,j < (f7 p).length -> o0 l p ((f7 p).getD j default) = false):qp l p = true:=aoe fun x hx=>by
 obtain ⟨j,hj,rfl⟩:=bk4 (x3.2 hx);have:=h j hj;rwa [bjd,bjc hj,bk8] at this
def xf (n:Int) (l:List Fd) (p:AS):Int:=if bh n l = 0 then (if sub p (a8 n) then 0 else 1) else bh n l
def qj (n:Int) (l:List Fd) (p:AS):Bool:=decide (xf n l p = 0) && qp l p
def b24 {n:Int} (h:¬ bh n l = 0):xf n l p = bh n l /\ qj n l p = false:=by
 have e:xf n l p = bh n l:=if_neg h;exact ⟨e,by unfold qj;rw [e,decide_eq_false h];rfl⟩
def b1u {n:Int} (h:bh n l = 0) (h2:¬ sub p (a8 n)):xf n l p = 1 /\ qj n l p = false:=by
 have e:xf n l p = 1:=by unfold xf;rw [if_pos h,if_neg h2]
 exact ⟨e,by unfold qj;rw [e];rfl⟩
def ahd {n:Int} (h:bh n l = 0) (h2:sub p (a8 n)):xf n l p = 0 /\ qj n l p = qp l p:=by
 have e:xf n l p = 0:=by unfold xf;rw [if_pos h,if_pos h2]
 exact ⟨e,by unfold qj;rw [e];rfl⟩
end
end
end Go.Hx

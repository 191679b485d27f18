/- A part of the proof: Ch14 Ch19 Ch21 Cc1 Cc2 Cc3 Ls1 Cs24 V23 Cs26 Cs27 Cs28 Cs30 Cs31 Cs32 Cs33 Cs34 Cs35 Cs36 Cz1m Cs37 Cs40 Cs42 Ls2 Ls3 Ls5 Ls6 W2a Rbm Bz1. -/
import Derived.Test.YtidophngianjiaaDoorDx15
import Derived.Test.YtidophngianjiaaDoorDx18
import Derived.Test.YtidophngianjiaaDoorDx19
import Derived.Test.YtidophngianjiaaDoorDx20
import Derived.Test.YtidophngianjiaaDoorDx21
set_option linter.all false
section
namespace Go.Hx
abbrev FU:Nat:=1300000
abbrev qv (n:Int) (x:Fd):List AS:=[x.lhs ||| x.rhs,x.lhs ||| (ah n &&& ~~~x.rhs)]
def atf (n:Int) (p m:List Fd) (x:Fd):Bool × Int :=
 if ec n p m = 0 then
  if inU n x = true then
   if (nq n (qv n x)).2.2 = 0 then
    if (a1h FU (nq n (qv n x)).1 (nq n (qv n x)).2.1 p m).2.2 = 0 then ((a1h FU (nq n (qv n x)).1 (nq n (qv n x)).2.1 p m).2.1.2.any (fun r=>decide (r = sj n)),0)
    else (false,(a1h FU (nq n (qv n x)).1 (nq n (qv n x)).2.1 p m).2.2)
   else (false,(nq n (qv n x)).2.2)
  else (false,1)
 else (false,ec n p m)
end Go.Hx
end
section
namespace Go.Hx
open Go.Proofs
def muK (p:List Fd) (k:Nat):Bool:=decide (p.length ≤ k)
def ixK (p:List Fd) (k:Nat):Nat:=if p.length ≤ k then k - p.length else k
def chE (l:List Rw) (p m:List Fd) (s:St):Bool:=if s.1 = true then arh l (m.getD s.2.1 default) s.2.2.1 s.2.2.2 else a1m l (p.getD s.2.1 default) s.2.2.1 s.2.2.2
def aqq (l:List Rw) (p m:List Fd) (k a b:Nat):Bool:=decide (a ≠ b) && chE l p m (muK p k,ixK p k,a,b)
def ati (l:List Rw) (p m:List Fd):Option St:=(a2d (aqq l p m) (p.length + m.length) l.length).map fun x=>(muK p x.1,ixK p x.1,x.2.1,x.2.2)
section
variable {l:List Rw} {p m:List Fd} {k a b:Nat}
end
end Go.Hx
end
section
namespace Go.Hx
def agq (l:List Rw) (p m:List Fd) (mu:Bool) (i a b:Int):Prop:=a < 0 ∨ (l.length:Int) ≤ a ∨ b < 0 ∨ (l.length:Int) ≤ b ∨ a = b ∨ i < 0 ∨ (mu = true ∧ (m.length:Int) ≤ i) ∨ (mu = false ∧ (p.length:Int) ≤ i)
instance (l:List Rw) (p m:List Fd) (mu:Bool) (i a b:Int):Decidable (agq l p m mu i a b):=by unfold agq;infer_instance
def at8 (n:Int) (l:List Rw) (p m:List Fd) (mu:Bool) (i a b:Int):Int × List Rw × Int :=
 if ckE n l p m = 0 then if agq l p m mu i a b then (0,[],1) else gr n l p m (mu,i.toNat,a.toNat,b.toNat) else (0,[],ckE n l p m)
section
variable {n:Int} {l:List Rw} {p m:List Fd} {mu:Bool} {i a b:Int}
end
end Go.Hx
end
section
namespace Go.Hx
def AgE (E:Int → Int → Prop) (a b:Rw) (s:AS):Prop:=∀ i:Nat,i < a.length → i7 s (i:Int) = true → E (a.getD i default) (b.getD i default)
structure Mdl (N:Nat) (p m:List Fd) (E:Int → Int → Prop) (R:Rw → Prop):Prop where
 refl:∀ x,E x x
 symm:∀ {x y},E x y → E y x
 trans:∀ {x y z},E x y → E y z → E x z
 len:∀ {r},R r → r.length = N
 cong:∀ {r r':Rw},R r → r'.length = r.length → (∀ i,i < r.length → E (r.getD i default) (r'.getD i default)) → R r'
 fd:∀ {x},x ∈ p → ∀ {a b},R a → R b → AgE E a b x.lhs → AgE E a b x.rhs
 mv:∀ {x},x ∈ m → ∀ {a b},R a → R b → AgE E a b x.lhs → R (gu a b (x.lhs ||| x.rhs))
def LE (N:Nat) (p m:List Fd) (l:List Rw) (x y:Int):Prop:=∀ E R,Mdl N p m E R → (∀ r,r ∈ l → R r) → E x y
def LR (N:Nat) (p m:List Fd) (l:List Rw) (r:Rw):Prop:=∀ E R,Mdl N p m E R → (∀ r,r ∈ l → R r) → R r
theorem amy (N:Nat) (p m:List Fd):Mdl N p m (fun _ _=>True) (fun r=>r.length = N) :=
 ⟨fun _=>trivial,fun _=>trivial,fun _ _=>trivial,fun h=>h,fun h e _=>e.trans h,fun _ _ _ _ _ _ _ _ _=>trivial,fun _ a b _ hb _=>(a02 _ _ _).trans hb⟩
theorem xd {N:Nat} {p m:List Fd} {l:List Rw} (hl:∀ r,r ∈ l → r.length = N):Mdl N p m (LE N p m l) (LR N p m l) where
 refl x:=fun E R h _=>h.refl x
 symm h:=fun E R k kl=>k.symm (h E R k kl)
 trans h h2:=fun E R k kl=>k.trans (h E R k kl) (h2 E R k kl)
 len h:=h _ _ (amy N p m) hl
 cong h e h2:=fun E R k kl=>k.cong (h E R k kl) e fun i hi=>h2 i hi E R k kl
 fd hx _ _ ha hb hl:=fun i hi hs E R k kl=>k.fd hx (ha E R k kl) (hb E R k kl) (fun j hj hh=>hl j hj hh E R k kl) i hi hs
 mv hx _ _ ha hb hl:=fun E R k kl=>k.mv hx (ha E R k kl) (hb E R k kl) fun j hj hh=>hl j hj hh E R k kl
structure Ch (N:Nat) (p m:List Fd) (l0 l:List Rw) (σ:Int → Int):Prop where
 rows:∀ r,r ∈ l → LR N p m l0 r
 sym:∀ s,LE N p m l0 s (σ s)
 img:∀ r,r ∈ l0 → r.map σ ∈ l
 fix:∀ r,r ∈ l → ∀ z,z ∈ r → σ z = z
 le:∀ s,σ s ≤ s
section
variable {N:Nat} {p m:List Fd} {l0 l l':List Rw} {σ σ':Int → Int} {n:Int}
theorem Ch.start:Ch N p m l0 l0 id:=⟨fun r hr E R _ hl=>hl r hr,fun s E R k _=>k.refl s,fun r hr=>by rw [List.map_id];exact hr,fun _ _ _ _=>rfl,fun s=>Int.le_refl s⟩
theorem Ch.congr (h:Ch N p m l0 l σ) (e:∀ r,r ∈ l' ↔ r ∈ l):Ch N p m l0 l' σ :=
 ⟨fun r hr=>h.rows r ((e r).1 hr),h.sym,fun r hr=>(e _).2 (h.img r hr),fun r hr=>h.fix r ((e r).1 hr),h.le⟩
def jy (hi lo z:Int):Int:=if z = hi then lo else z
theorem ago {f:Int → Int} {r:Rw} {i:Nat} (h:i < r.length):(r.map f).getD i default = f (r.getD i default):=by
 rw [List.getD_eq_getElem?_getD,List.getElem?_map,List.getElem?_eq_getElem h,List.getD_eq_getElem?_getD,List.getElem?_eq_getElem h]
 rfl
theorem Ch.sub (hl0:∀ r,r ∈ l0 → r.length = N) (h:Ch N p m l0 l σ) {hi lo:Int} (hE:LE N p m l0 hi lo) (hle:lo ≤ hi) (hin:∃ r,r ∈ l ∧ lo ∈ r):Ch N p m l0 (l.map fun r=>r.map (jy hi lo)) (fun s=>jy hi lo (σ s)):=by
 have hm:=xd (p:=p) (m:=m) hl0
 have hs:∀ z,LE N p m l0 z (jy hi lo z):=fun z=>by
  unfold jy
  split
  · rename_i e;rw [e];exact hE
  · exact hm.refl z
 refine ⟨fun r hr=>?_,fun s=>hm.trans (h.sym s) (hs _),fun r hr=>?_,fun r hr z hz=>?_,fun s=>?_⟩
 · obtain ⟨r0,h0,rfl⟩:=List.mem_map.1 hr
   exact hm.cong (h.rows r0 h0) (by simp) fun i hi=>by rw [ago hi];exact hs _
 · refine List.mem_map.2 ⟨_,h.img r hr, ?_⟩
   rw [List.map_map]
   rfl
 · obtain ⟨r0,h0,rfl⟩:=List.mem_map.1 hr
   obtain ⟨y,hy,rfl⟩:=List.mem_map.1 hz
   obtain ⟨r1,h1,h2⟩:=hin
   have e1:=h.fix r0 h0 y hy
   have e2:=h.fix r1 h1 lo h2
   by_cases e:y = hi
   · have e3:jy hi lo y = lo:=if_pos e
     show jy hi lo (σ (jy hi lo y)) = jy hi lo y
     rw [e3,e2]
     unfold jy
     split <;> rfl
   · have e3:jy hi lo y = y:=if_neg e
     show jy hi lo (σ (jy hi lo y)) = jy hi lo y
     rw [e3,e1,e3]
 · have h1:=h.le s
   have h2:jy hi lo (σ s) ≤ σ s:=by
    unfold jy
    split <;> omega
   exact Int.le_trans h2 h1
theorem aan {M:Nat → Nat → Int} {a b j:Nat}:dz l (eqM M a b j) = (dz l M).map fun r=>r.map (jy (hiI (M a j) (M b j)) (loI (M a j) (M b j))):=by
 unfold dz
 rw [List.map_map]
 refine List.map_congr_left fun i _=>?_
 show _ = List.map _ (List.map _ _)
 rw [List.map_map]
 rfl
theorem acd {M:Nat → Nat → Int} {a j:Nat} (ha:a < l.length) (hj:j < (l.getD a default).length):∃ r,r ∈ dz l M ∧ M a j ∈ r :=
 a0s.2 ⟨a,j,ha,hj,rfl⟩
theorem Ch.eqMs (hl0:∀ r,r ∈ l0 → r.length = N) {a b:Nat} (ha:a < l.length) (hb:b < l.length):∀ {js:List Nat} {M:Nat → Nat → Int} {σ:Int → Int},Ch N p m l0 (dz l M) σ → (∀ j,j ∈ js → j < (l.getD a default).length ∧ j < (l.getD b default).length ∧ LE N p m l0 (M a j) (M b j)) →
 ∃ σ',Ch N p m l0 (dz l (eqMs M a b js)) σ'
 | [],M,σ,h,_=>⟨σ,h⟩
 | j :: js,M,σ,h,hj=>by
  obtain ⟨h1,h2,h3⟩:=hj j (by simp)
  have hm:=xd (p:=p) (m:=m) hl0
  have hlo:loI (M a j) (M b j) ≤ hiI (M a j) (M b j):=by unfold loI hiI;split <;> split <;> omega
  have hE:LE N p m l0 (hiI (M a j) (M b j)) (loI (M a j) (M b j)):=by
   rcases alh (M a j) (M b j) with e | e <;> rcases aat (M a j) (M b j) with f | f <;> rw [e,f]
   · exact hm.refl _
   · exact h3
   · exact hm.symm h3
   · exact hm.refl _
  have hin:∃ r,r ∈ dz l M ∧ loI (M a j) (M b j) ∈ r:=by
   rcases aat (M a j) (M b j) with f | f <;> rw [f]
   · exact acd ha h1
   · exact acd hb h2
  have hq:=h.sub hl0 hE hlo hin
  rw [← aan] at hq
  have hs:∀ z,LE N p m l0 z (if z = hiI (M a j) (M b j) then loI (M a j) (M b j) else z):=fun z=>by
   split
   · rename_i e;rw [e];exact hE
   · exact hm.refl z
  exact Ch.eqMs hl0 ha hb (js:=js) hq fun k hk=>by
   obtain ⟨h4,h5,h6⟩:=hj k (by simp [hk])
   exact ⟨h4,h5,hm.trans (hm.symm (hs (M a k))) (hm.trans h6 (hs (M b k)))⟩
theorem a91:dz l (qx l) = l:=by
 refine a97 (uh _ _) fun i hi=>?_
 rw [uh] at hi
 rw [ack hi]
 refine a97 (by simp) fun k hk=>?_
 simp only [List.length_map,List.length_range] at hk
 rw [List.getD_eq_getElem?_getD,List.getElem?_map,List.getElem?_range hk]
 rfl
theorem aar (hl0:∀ r,r ∈ l0 → r.length = N) {a b:Rw} {s:AS} (h:rr a b s = true):AgE (LE N p m l0) a b s:=fun i hi hs=>by
 rw [of_decide_eq_true h i hi hs]
 exact (xd hl0).refl _
theorem dp {α:Type} [Inhabited α] {l:List α} {i:Nat} (h:i < l.length):l.getD i default ∈ l:=by
 rw [List.getD_eq_getElem?_getD,List.getElem?_eq_getElem h]
 exact List.getElem_mem h
theorem aga {a b:Rw} {s:AS} (hl:a.length = b.length) {z:Int} (hz:z ∈ gu a b s):z ∈ a ∨ z ∈ b:=by
 unfold gu at hz
 rw [List.mem_map] at hz
 obtain ⟨i,hi,rfl⟩:=hz
 have hi:=List.mem_range.1 hi
 split
 · exact .inl (dp (by omega))
 · exact .inr (dp hi)
def asj (l:List Rw) (p m:List Fd) (s:St):Prop:=s.2.2.1 < l.length ∧ s.2.2.2 < l.length ∧ (s.1 = false → s.2.1 < p.length) ∧ (s.1 = true → s.2.1 < m.length)
theorem Ch.app (hl0:∀ r,r ∈ l0 → r.length = n.toNat) (hT:tok n l = true) (hp:p.all (inU n) = true) (h:Ch n.toNat p m l0 l σ) {s:St} (hs:asj l p m s) (he:(gr n l p m s).2.2 = 0) :
 (gr n l p m s).1 = n ∧ ∃ σ',Ch n.toNat p m l0 (gr n l p m s).2.1 σ':=by
 obtain ⟨mu,i,a,b⟩:=s
 obtain ⟨ha,hb,hf,hv⟩:=hs
 obtain ⟨h0,h1,h2,h3⟩:=xy hT
 have ha:a < l.length:=ha
 have hb:b < l.length:=hb
 have hra:=h3 a ha
 have hrb:=h3 b hb
 cases mu with
 | false =>
  have hi:i < p.length:=hf rfl
  have e0:gr n l p m (false,i,a,b) = fdE n l a b (p.getD i default):=rfl
  rw [e0] at he ⊢
  by_cases hg:rr (l.getD a default) (l.getD b default) (p.getD i default).lhs = true
  · have e1:fdE n l a b (p.getD i default) = (n,d7 (dz l (Go.Hx.eqMs (qx l) a b (bi (p.getD i default).rhs))),0):=if_pos hg
    rw [e1]
    refine ⟨rfl, ?_⟩
    have hu:inU n (p.getD i default) = true:=List.all_eq_true.1 hp _ (dp hi)
    have hm:=xd (p:=p) (m:=m) hl0
    have hR:=hm.fd (dp hi) (h.rows _ (dp ha)) (h.rows _ (dp hb)) (aar hl0 hg)
    obtain ⟨σ',hσ⟩:=Ch.eqMs (p:=p) (m:=m) hl0 ha hb (js:=bi (p.getD i default).rhs) (M:=qx l) (σ:=σ) (by rw [a91];exact h) fun j hj=>by
     have h4:=a9g h0 h1 hu hj
     have h5:=iq.1 hj
     refine ⟨Nat.lt_of_lt_of_eq h4 hra.symm,Nat.lt_of_lt_of_eq h4 hrb.symm,hR j (Nat.lt_of_lt_of_eq h4 hra.symm) (by rw [p9 h5.1];exact h5.2)⟩
    exact ⟨σ',hσ.congr fun r=>dq⟩
  · have e1:fdE n l a b (p.getD i default) = (0,[],1):=if_neg hg
    rw [e1] at he
    exact absurd he (by decide)
 | true =>
  have hi:i < m.length:=hv rfl
  have e0:gr n l p m (true,i,a,b) = mvE n l a b (m.getD i default):=rfl
  rw [e0] at he ⊢
  by_cases hg:rr (l.getD a default) (l.getD b default) (m.getD i default).lhs = true
  · have e1:mvE n l a b (m.getD i default) = a0m n l (gu (l.getD a default) (l.getD b default) ((m.getD i default).lhs ||| (m.getD i default).rhs)):=if_pos hg
    rw [e1] at he ⊢
    by_cases hbig:256 < (d7 (l ++ [gu (l.getD a default) (l.getD b default) ((m.getD i default).lhs ||| (m.getD i default).rhs)])).length
    · have e2:a0m n l (gu (l.getD a default) (l.getD b default) ((m.getD i default).lhs ||| (m.getD i default).rhs)) = (0,[],3):=if_pos hbig
      rw [e2] at he
      exact absurd he (by decide)
    · have e2:a0m n l (gu (l.getD a default) (l.getD b default) ((m.getD i default).lhs ||| (m.getD i default).rhs)) = (n,d7 (l ++ [gu (l.getD a default) (l.getD b default) ((m.getD i default).lhs ||| (m.getD i default).rhs)]),0):=if_neg hbig
      rw [e2]
      refine ⟨rfl,σ, ?_⟩
      have hm:=xd (p:=p) (m:=m) hl0
      have hR:=hm.mv (dp hi) (h.rows _ (dp ha)) (h.rows _ (dp hb)) (aar hl0 hg)
      refine ⟨fun r hr=>?_,h.sym,fun r hr=>dq.2 (List.mem_append_left _ (h.img r hr)),fun r hr z hz=>?_,h.le⟩
      · rcases List.mem_append.1 (dq.1 hr) with h4 | h4
        · exact h.rows r h4
        · rw [List.mem_singleton.1 h4];exact hR
      · rcases List.mem_append.1 (dq.1 hr) with h4 | h4
        · exact h.fix r h4 z hz
        · rw [List.mem_singleton.1 h4] at hz
          rcases aga (by omega) hz with h5 | h5
          · exact h.fix _ (dp ha) z h5
          · exact h.fix _ (dp hb) z h5
  · have e1:mvE n l a b (m.getD i default) = (0,[],1):=if_neg hg
    rw [e1] at he
    exact absurd he (by decide)
theorem a9c {f:Int → Int}:∀ {r:Rw},(∀ z,z ∈ r → f z = z) → r.map f = r
 | [],_=>rfl
 | z :: r,h=>by rw [List.map_cons,h z (by simp),a9c fun y hy=>h y (by simp [hy])]
end
end Go.Hx
end
section
namespace Go.Hx
def arb:List (List Int) → List Rw
 | []=>[[]]
 | c :: cs=>c.flatMap fun z=>(arb cs).map fun r=>z :: r
section
variable {N:Nat} {p m:List Fd} {l0 l:List Rw}
theorem ama {a b:Rw} {s:AS} {i:Nat} (h:i < b.length):(gu a b s).getD i default = if i7 s (i:Int) = true then a.getD i default else b.getD i default:=by
 unfold gu
 rw [List.getD_eq_getElem?_getD,List.getElem?_map,List.getElem?_range h]
 rfl
theorem agl (C:Nat → List Int) (hd:∀ i j z,z ∈ C i → z ∈ C j → i = j):Mdl N p m (fun x y=>x = y ∨ ∃ i,x ∈ C i ∧ y ∈ C i) (fun r=>r.length = N ∧ ∀ i,i < N → r.getD i default ∈ C i) where
 refl _:=.inl rfl
 symm h:=by
  rcases h with h | ⟨i,h,k⟩
  · exact .inl h.symm
  · exact .inr ⟨i,k,h⟩
 trans h h2:=by
  rcases h with h | ⟨i,h,k⟩
  · rw [h];exact h2
  · rcases h2 with h2 | ⟨j,h2,k2⟩
    · rw [← h2];exact .inr ⟨i,h,k⟩
    · have:=hd i j _ k h2
      subst this
      exact .inr ⟨i,h,k2⟩
 len h:=h.1
 cong h e h2:=⟨e.trans h.1,fun i hi=>by
  have h3:=h.2 i hi
  rcases h2 i (by rw [h.1];exact hi) with h4 | ⟨j,h4,h5⟩
  · rw [← h4];exact h3
  · have:=hd i j _ h3 h4
    subst this
    exact h5⟩
 fd _ a b ha hb _:=fun i hi _=>.inr ⟨i,ha.2 i (by rw [← ha.1];exact hi),hb.2 i (by rw [← ha.1];exact hi)⟩
 mv _ a b ha hb _:=⟨(a02 _ _ _).trans hb.1,fun i hi=>by
  rw [ama (by rw [hb.1];exact hi)]
  split
  · exact ha.2 i hi
  · exact hb.2 i hi⟩
def are (N:Nat) (p m:List Fd) (l0:List Rw):Prop:=∀ l,lp l → (∀ r,r ∈ l → LR N p m l0 r) → l.length ≤ 256
end
section
variable {p m:List Fd} {l0 l:List Rw} {n:Int} {σ:Int → Int}
theorem Ch.code (h0:tok n l0 = true) (hS:are n.toNat p m l0) (hp:p.all (inU n) = true) (hT:tok n l = true) (h:Ch n.toNat p m l0 l σ) {s:St} (hs:ab4 l p m s):(gr n l p m s).2.2 = 0:=by
 rcases acv hT hp hs with e | ⟨l',e,_⟩
 · obtain ⟨mu,i,a,b⟩:=s
   obtain ⟨ha,hb,hs | hs⟩:=hs
   · obtain ⟨h1,h2,h3⟩:=hs
     cases h1
     have h4:gr n l p m (false,i,a,b) = fdE n l a b (p.getD i default):=rfl
     have hg:=(akx hT (List.all_eq_true.1 hp _ (dp h2)) ha hb h3).1
     have hg:fdE n l a b (p.getD i default) = (n,fdL l a b (p.getD i default),0):=hg
     rw [h4,hg] at e ⊢
   · obtain ⟨h1,h2,h3⟩:=hs
     cases h1
     have h4:gr n l p m (true,i,a,b) = mvE n l a b (m.getD i default):=rfl
     have h5:xw l (m.getD i default) a b = true:=h3
     unfold xw at h5
     rw [Bool.and_eq_true] at h5
     have h6:mvE n l a b (m.getD i default) = a0m n l (gu (l.getD a default) (l.getD b default) ((m.getD i default).lhs ||| (m.getD i default).rhs)):=if_pos h5.1
     have hl0:∀ r,r ∈ l0 → r.length = n.toNat:=fun r hr=>(a3i h0 r hr).1
     have h7:=hS (d7 (l ++ [gu (l.getD a default) (l.getD b default) ((m.getD i default).lhs ||| (m.getD i default).rhs)])) (v6 _) fun r hr=>by
      rcases List.mem_append.1 (dq.1 hr) with h8 | h8
      · exact h.rows r h8
      · rw [List.mem_singleton.1 h8]
        exact (xd hl0).mv (dp h2) (h.rows _ (dp ha)) (h.rows _ (dp hb)) (aar hl0 h5.1)
     rw [h4,h6]
     unfold a0m
     rw [if_neg (by omega)]
 · rw [e]
def TrZ (n:Int) (p m:List Fd) (lend:List Rw):List Rw → List St → Prop
 | l,[]=>l = lend
 | l,s :: r=>tok n l = true ∧ ab4 l p m s ∧ ∃ l',gr n l p m s = (n,l',0) ∧ ¬ l' = l ∧ TrZ n p m lend l' r
end
def stC (n:Int) (ps:List AS) (c:Nat):List Int:=if c < n.toNat then (List.range ps.length).map fun i=>stV n i (ps.getD i default) c else []
section
variable {n:Int} {ps:List AS} {p m:List Fd}
theorem an3 (h0:0 ≤ n) {i c:Nat} {q:AS} (hc:c < n.toNat):stV n i q c % n = (c:Int):=by
 unfold stV
 split
 · exact Int.emod_eq_of_lt (by omega) (by omega)
 · have e:n + (i:Int) * n + (c:Int) = (c:Int) + n * (1 + (i:Int)):=by rw [Int.mul_add,Int.mul_one,Int.mul_comm (i:Int) n];omega
   rw [e,Int.add_mul_emod_self_left]
   exact Int.emod_eq_of_lt (by omega) (by omega)
theorem a2u (h0:0 ≤ n) {c:Nat} {z:Int} (h:z ∈ stC n ps c):c < n.toNat ∧ z % n = (c:Int):=by
 unfold stC at h
 split at h
 · rename_i hc
   obtain ⟨i,_,rfl⟩:=List.mem_map.1 h
   exact ⟨hc,an3 h0 hc⟩
 · simp at h
theorem alx (h0:0 ≤ n):∀ i j z,z ∈ stC n ps i → z ∈ stC n ps j → i = j:=fun i j z h k=>by
 have h1:=(a2u h0 h).2
 have h2:=(a2u h0 k).2
 omega
theorem abo {r:Rw} (hr:r ∈ po n ps):r.length = n.toNat ∧ ∀ i,i < n.toNat → r.getD i default ∈ stC n ps i:=by
 unfold po at hr
 obtain ⟨k,hk,rfl⟩:=List.mem_map.1 hr
 refine ⟨an0 _ _ _,fun i hi=>?_⟩
 rw [apv hi]
 unfold stC
 rw [if_pos hi]
 exact List.mem_map.2 ⟨k,hk,rfl⟩
end
end Go.Hx
end
section
namespace Go.Hx
section
variable {n:Int} {ps:List AS} {p m:List Fd} {l l0:List Rw} {σ:Int → Int}
theorem ant (h0:0 ≤ n) {c:Nat} {z:Int} (h:z ∈ stC n ps c):z = (c:Int) ∨ n ≤ z:=by
 unfold stC at h
 split at h
 · obtain ⟨i,_,rfl⟩:=List.mem_map.1 h
   unfold stV
   split
   · exact .inl rfl
   · right
     have:=Int.mul_nonneg (show (0:Int) ≤ (i:Int) by omega) h0
     omega
 · simp at h
theorem Ch.first (h0:0 ≤ n) (h:Ch n.toNat p m (d7 (po n ps)) l σ):(sj n).map σ = sj n:=by
 refine a9c fun z hz=>?_
 unfold sj at hz
 obtain ⟨c,hc,rfl⟩:=List.mem_map.1 hz
 have hc:=List.mem_range.1 hc
 have h1:=h.sym (c:Int) _ _ (agl (stC n ps) (alx h0)) fun r hr=>abo (dq.1 hr)
 rcases h1 with h1 | ⟨i,h1,h2⟩
 · exact h1.symm
 · have h3:=(a2u h0 h1).2
   have h4:=Int.emod_eq_of_lt (a:=(c:Int)) (b:=n) (by omega) (by omega)
   have h5:i = c:=by omega
   subst h5
   have h6:=h.le (i:Int)
   rcases ant h0 h2 with h7 | h7
   · exact h7
   · omega
def swI (n z:Int):Int:=if n ≤ z ∧ z < 2 * n then z + n else if 2 * n ≤ z ∧ z < 3 * n then z - n else z
abbrev aua (n:Int) (x:Fd):Fd:=⟨x.lhs,ah n &&& ~~~(x.lhs ||| x.rhs)⟩
end
end Go.Hx
end
section
namespace Go.Hx
section
variable {n:Int} {p m:List Fd} {l0 l:List Rw} {σ:Int → Int}
def trL (n:Int) (p m:List Fd):List Rw → List St → List (List Rw)
 | l,[]=>[l]
 | l,s :: r=>l :: trL n p m (gr n l p m s).2.1 r
end
section
variable {n:Int} {ps:List AS} {p m:List Fd}
end
end Go.Hx
end
section
namespace Go.Hx
section
variable {n:Int} {l:List Fd}
end
theorem apt {α β:Type} [Inhabited α] {f:α → β} {l:List α} {i:Nat} (h:i < l.length):(l.take (i + 1)).map f = (l.take i).map f ++ [f (l.getD i default)]:=by
 rw [b8 h,List.map_append]
 rfl
structure Dps where
 n:BitVec 8
 l:List Dp
deriving Inhabited
def Dps.num (d:Dps):Int:=((d.n.toNat % 7:Nat):Int)
def Dps.fds (d:Dps):List Fd:=d.l.map (Dp.fd d.num)
def Dps.c (d:Dps):Nat → PV
 | 0=>.raw (.int .u8 (d.n.toNat:Int))
 | 1=>dpl d.l
 | _=>.any
abbrev Dps.pc (d:Dps):PC:=.agg [d.c 0,d.c 1]
theorem x5 (d:Dps):0 ≤ d.num ∧ d.num ≤ 6:=by unfold Dps.num;omega
theorem apu {d:Dps} (h:d.l.length ≤ 6):cu d.num d.fds = 0:=by
 obtain ⟨h0,h1⟩:=x5 d
 unfold cu
 rw [if_neg (by omega),if_neg (by unfold Dps.fds;rw [List.length_map];omega),if_pos]
 rw [List.all_eq_true]
 intro f hf
 unfold Dps.fds at hf
 obtain ⟨x,hx,rfl⟩:=List.mem_map.1 hf
 exact (a3h h0 (by omega)).2 ⟨l5,l5⟩
end Go.Hx
end
section
namespace Go.Hx
open Go.Proofs
set_option maxRecDepth 100000
theorem acf:al Tryd.prog 31:=⟨Tryd.f31,Tryd.func31,by kernel_rfl,by kernel_rfl⟩
theorem al5 (n:Int) (l:List Dp) (hl:l.length ≤ 16777216):ao Tryd.prog 31 [pI n,pP (dpl l)] (ay [pP (fdl (l.map (Dp.fd n)))]):=by
 refine am (nt:=37) ai Tryd.func31 rfl rfl l9 ?_;refine sx7 ?_;refine qy ?_;refine a6 ?_;refine sx7 ?_;refine qy ?_;refine rc rfl rfl rfl rfl rfl rfl ue (p6 n) (CoL.refl _) rfl rfl ?_;refine qy ?_
 refine a6 ?_;refine sx7 ?_;refine qy ?_;refine a6 ?_;refine a7 ?_;refine sx7 ?_;refine qy ?_;refine a6 ?_;refine af ?_
 refine dm 6 900 true 2 42 (lf Fd.c []) (by decide) rfl (CoP.sl rfl (.inr rfl) (fun h=>h) (fun i j hi _=>absurd hi (Nat.not_lt_zero i))) (.inr rfl) rfl ?_
 refine av (ι:=Nat) ⟨[(1,some _),(5,some _)],[]⟩ ⟨⟨c9,c9,trivial⟩,trivial⟩ (fun i=>⟨[(6,some (.v (.one (.ref 900 ((l.take i).map (Dp.fd n)).length)))),(7,some (vI i))],[(900,some (.arr true 2 42 ((l.take i).map (Dp.fd n)).length (lf Fd.c ((l.take i).map (Dp.fd n)))))]⟩) (fun i=>i ≤ l.length) (fun i=>l.length - i) (0) (Nat.zero_le _) ⟨⟨zy,zy,trivial⟩,⟨u9,trivial⟩⟩ ?_
 rintro i hi
 have hlen:((l.take i).map (Dp.fd n)).length ≤ i:=by rw [List.length_map,List.length_take];omega
 refine a7 ?_;refine sx7 ?_;(iterate 4 refine qy ?_);refine a6 ?_;refine a8 _ rfl (fun r0=>?_) (fun r0=>?_)
 ·
  have h0:=of_decide_eq_true r0
  try simp only [ty] at h0
  refine aa ?_;refine a7 ?_;refine af ?_;refine d8 (E:=dg) ai c7 [0,1,2,3,4,5,6,7,8,9,10,11,12,13,14,15,16,17,18,19,20] ?_;(iterate 18 refine qy ?_);refine m9 0 ?_
  refine ra 1 true rfl rfl rfl rfl rfl rfl ?_;refine qy ?_;refine a6 ?_;refine ⟨by kernel_rfl, ?_⟩;refine gy ?_;(iterate 3 refine qy ?_);refine a6 ?_;refine ⟨i + 1, ?_, ?_, ?_⟩
  · show i + 1 ≤ _;omega
  · first | omega | (dsimp only;omega)
  · exact ⟨⟨⟨_,rfl,(ck (apt (by omega)))⟩,zy,c9,c9,trivial⟩,⟨⟨_,rfl,(a00 (apt (by omega)) (CoP.of_eq (congrArg (fun z=>PV.raw (.int .u32 z)) (ll _ _))) (CoP.of_eq (congrArg (fun z=>PV.raw (.int .u32 z)) (ll _ _))))⟩,trivial⟩⟩
 ·
  have h0:=of_decide_eq_false r0
  try simp only [ty] at h0
  obtain rfl:i = l.length:=by omega
  refine au ?_;refine sx7 ?_;(iterate 2 refine qy ?_);refine a6 ?_;refine c8 4 rfl rfl rfl ?_
  exact hx8 rfl rfl rfl (⟨CoC.one (CoP.of_eq (by rw [List.take_length];rfl)),trivial⟩)
theorem anw:al Tryd.prog 17:=⟨Tryd.f17,Tryd.func17,by kernel_rfl,by kernel_rfl⟩
theorem cOf (d:Dps) (hl:d.l.length ≤ 16777216):ao Tryd.prog 17 [d.pc] (ay [pI d.num,pP (fdl d.fds),pB (decide (d.l.length ≤ 6))]):=by
 refine am (nt:=19) ai Tryd.func17 rfl rfl l9 ?_;refine sx7 ?_;refine m9 0 ?_;(iterate 3 refine qy ?_);refine a6 ?_;refine sx7 ?_;(iterate 5 refine qy ?_);refine a6 ?_;refine a7 ?_
 refine d8 (E:=dg) ai c7 [0,1,2,3,4,5,6,7,8,9,10,11] ?_;(iterate 4 refine qy ?_);refine rc rfl rfl rfl rfl rfl rfl acf (al5 d.num d.l hl) (CoL.refl _) rfl rfl ?_;(iterate 7 refine qy ?_)
 refine a6 ?_;refine ⟨by kernel_rfl, ?_⟩
 exact hx8 rfl rfl rfl (⟨cci (show (d.n.toNat:Int) % 7 = d.num by unfold Dps.num;omega),CoC.refl _,ccb (decide_eq_decide.2 (by omega)),trivial⟩)
end Go.Hx
end
section
namespace Go.Hx
def noA (s:AS) (a:Nat):AS:=s &&& ~~~((1:AS) <<< a)
def aq5 (n:Int) (l:List Fd) (s:AS) (a:Nat):AS:=if a38 n l (noA s a) = true then noA s a else s
def art (n:Int) (l:List Fd) (s:AS) (k:Nat):AS:=(List.range k).foldl (fun s j=>aq5 n l s (n.toNat - 1 - j)) s
def rkE (n:Int) (l:List Fd) (s:AS):Int:=if cu n l = 0 then (if a38 n l s = true then 0 else 1) else cu n l
def rkS (n:Int) (l:List Fd) (s:AS):AS:=if rkE n l s = 0 then art n l s n.toNat else 0
def ar9 (n:Int) (l:List Fd) (s:AS):Bool:=a38 n l s && (List.range n.toNat).all fun a=>!(s.getLsbD a && a38 n l (noA s a))
def arv (n:Int) (l:List Fd) (i:Nat):List AS:=((List.range i).map (BitVec.ofNat 32)).filter (ar9 n l)
def akt (n:Int) (l:List Fd):List AS:=if cu n l = 0 then ord (arv n l (2 ^ n.toNat)) else []
end Go.Hx
end
section
namespace Go.Hx
def bC:Bool → Nat → PV:=fun b _=>.raw (.bool b)
def agd (n:Int) (l:List Fd) (k:Nat):Bool:=decide (clo l (BitVec.ofNat 32 k) = ah n)
def asf (n:Int) (l:List Fd) (i:Nat):List Bool:=(List.range (2 ^ n.toNat)).map fun k=>decide (k < i) && agd n l k
def au5 (n:Int) (l:List Fd):List Bool:=asf n l (2 ^ n.toNat)
end Go.Hx
end
section
namespace Go.Hx
section
variable {n:Int} {l:List Fd}
def okA (n:Int) (l:List Fd) (i a:Nat):Bool:=agd n l i && (List.range a).all fun b=>!(i.testBit b && agd n l (i ^^^ 2 ^ b))
section
variable {i a:Nat} (hv:cu n l = 0) (hi:i < 2 ^ n.toNat) (ha:(a:Int) < n) (hx:i ^^^ 2 ^ a < 2 ^ n.toNat)
include hv hi ha hx
end
end
end Go.Hx
end
section
namespace Go.Hx
def abu (s:AS):Nat → AS → List AS
 | 0,_=>[]
 | n + 1,x=>if x = 0 then [] else x :: abu s n ((x - 1) &&& s)
def a4x (s:AS):List AS:=0 :: abu s (s.toNat + 1) s
theorem sub_zero (s:AS):sub 0 s:=ar.2 fun i hi h=>by simp at h
def TsI (s:AS) (x:Nat × List AS × AS):Prop:=x.2.1 ++ abu s x.1 x.2.2 = a4x s ∧ x.2.2.toNat < x.1 ∧ x.2.1.length + x.1 = s.toNat + 2
def a7s (l:List Fd) (p s:AS):Bool:=decide (sub p (clo l s))
def asm (l:List Fd) (p x:AS):Bool:=(List.range 32).all fun a=>!(x.getLsbD a && a7s l p (noA x a))
def aul (l:List Fd) (p x r:AS):Prop:=sub r x ∧ ∀ a,a < 32 → x.getLsbD a = true → r.getLsbD a = true ∨ a7s l p (noA x a) = false
def ahp (l:List Fd) (p x:AS):Bool:=a7s l p x && asm l p x
def ae5 (l:List Fd) (p:AS):AS:=orL ((a4x p).filter (ahp l p))
theorem a3e {k:Nat}:∀ {ps:List AS} {s:AS},(ps.foldl (· ||| ·) s).getLsbD k = (s.getLsbD k || ps.any fun x=>x.getLsbD k)
 | [],s=>by simp
 | x :: ps,s=>by
  rw [List.foldl_cons,a3e,BitVec.getLsbD_or,List.any_cons,Bool.or_assoc]
def at3 (l:List Fd) (p:AS) (i:Nat):AS:=orL (((a4x p).take i).filter (ahp l p))
end Go.Hx
end
section
namespace Go.Hx
def aup (l:List Fd) (p x:AS) (a:Nat):Bool:=(List.range a).all fun b=>!(x.getLsbD b && a7s l p (noA x b))
def asb (i:Nat):List AS:=(List.range i).map (BitVec.ofNat 32)
def prQ (l:List Fd) (p x:AS):Bool:=decide (sub x p) && ahp l p x
def at9 (l:List Fd) (p:AS) (i:Nat):AS:=orL ((asb i).filter (prQ l p))
section
variable {l:List Fd} {p:AS} {i:Nat}
end
def asn (l:List Fd) (p x:AS):Bool:=!a7s l p x && decide (((clo l x &&& p) &&& ~~~x) &&& ~~~ae5 l p ≠ 0)
def aop (l:List Fd) (p:AS):Bool:=!(a4x p).any (asn l p)
def asv (n:Int) (l:List Fd) (p:AS):Int:=if cu n l = 0 then (if sub p (ah n) then 0 else 1) else cu n l
def auj (n:Int) (l:List Fd) (p:AS):Bool:=decide (asv n l p = 0) && aop l p
end Go.Hx
end
section
namespace Go.Hx
section
variable {n:Int} {l:List Fd}
def ap9 (n:Int) (l:List Fd) (f:Fd):Bool:=decide (clo l f.lhs ≠ ah n) && decide (f.rhs &&& ~~~ae5 l (ah n) ≠ 0)
def atq (n:Int) (l:List Fd) (i:Nat):List Fd:=((abl n l).take i).filter (ap9 n l)
def atg (n:Int) (l:List Fd):List Fd:=(abl n l).filter (ap9 n l)
end
end Go.Hx
end
section
namespace Go.Hx
def at0 (l:List Fd) (pr k:AS):Bool:=(List.range 32).all fun a=>!k.getLsbD a || decide (sub (clo l (noA k a)) pr)
def asu (n:Int) (l:List Fd):Bool:=(akt n l).all (at0 l (orL (akt n l)))
def au6 (n:Int) (l:List Fd):Bool:=decide (cu n l = 0) && asu n l
section
variable {l:List Fd} {pr k:AS}
def au2 (l:List Fd) (pr k r:AS):Prop:=sub r k ∧ ∀ a,a < 32 → k.getLsbD a = true → r.getLsbD a = true ∨ sub (clo l (noA k a)) pr
def aui (l:List Fd) (pr k:AS) (s:Nat):Prop:=∀ j,j < s → sub (BitVec.ofNat 32 j) k → sub (clo l (BitVec.ofNat 32 j)) pr
end
section
variable {n:Int} {l:List Fd}
end
end Go.Hx
end
section
namespace Go.Hx
def mgR (l:List Fd) (s:AS):AS:=(l.filter fun f=>decide (f.lhs = s)).foldl (fun a f=>a ||| f.rhs) 0
def mgF (l:List Fd) (s:AS):Fd:=⟨s,mgR l s⟩
def asc (l:List Fd):List Fd:=(ord (l.map Fd.lhs)).map (mgF l)
end Go.Hx
end
section
namespace Go.Hx
open Go.Proofs
def atw (t:AS) (l:List Fd):Prop:=∀ x ∈ l,sub x.rhs t
def ac8 (n:Int) (l:List Fd):List Fd:=asc (abl n l)
def pt (f:Fd):AS:=f.lhs ||| f.rhs
section
variable {n:Int} {l:List Fd}
def akq (n:Int) (l:List Fd) (i:Nat):Bool:=((ac8 n l).take i).any fun f=>a38 n l (pt f)
def aaf (n:Int) (l:List Fd):List AS:=(ac8 n l).map pt
def ary (n:Int) (l:List Fd):List AS:=a05 (if akq n l (ac8 n l).length = true then aaf n l else aaf n l ++ [rkS n l (ah n)])
def auo (n:Int) (l:List Fd):List AS:=if cu n l = 0 then ary n l else []
def au8 (n:Int) (l:List Fd):List AS:=if akq n l (ac8 n l).length = true then aaf n l else aaf n l ++ [rkS n l (ah n)]
end
end Go.Hx
end
section
namespace Go.Hx
def Eqv (l k:List Fd):Prop:=∀ s,n3 l s ↔ n3 k s
theorem Eqv.refl (l:List Fd):Eqv l l:=fun s=>Iff.rfl
theorem Eqv.trans {a b c:List Fd} (h:Eqv a b) (k:Eqv b c):Eqv a c:=fun s=>(h s).trans (k s)
theorem Eqv.clo {l k:List Fd} (h:Eqv l k) (s:AS):clo l s = clo k s :=
 dw (a4k ((h _).2 vu) acx) (a4k ((h _).1 vu) acx)
end Go.Hx
end
section
namespace Go.Hx
def ate (l:List Fd) (ps:List AS) (t:AS):Prop:=∀ p ∈ ps,sub (clo l (t &&& p) &&& p) t
def aqs (l:List Fd) (s p:AS):AS:=s ||| (clo l (s &&& p) &&& p)
def at6 (l:List Fd) (ps:List AS) (s:AS):AS:=ps.foldl (aqs l) s
def PrI (l:List Fd) (ps:List AS) (z s:AS):Prop:=sub z s ∧ sub s (agx l ps z)
def au3 (n:Int) (l:List Fd) (i:Nat):List AS:=((bg (ah n)).take i).filter fun s=>!o6 l s
end Go.Hx
end
section
namespace Go.Hx
def ata (l:List Fd):Prop:=∀ f ∈ l,∀ i,i < 32 → f.rhs.getLsbD i = true → f.lhs.getLsbD i = false
section
variable {n:Int} {l:List Fd}
end
end Go.Hx
end
section
namespace Go.Hx
open Go.Proofs
theorem am9 {ps:List AS} {k:AS} (h:k ∈ ps):sub k (orL ps):=ar.2 fun i hi hb=>by
 unfold orL
 rw [a3e,Bool.or_eq_true]
 exact .inr (List.any_eq_true.2 ⟨k,h,hb⟩)
section
variable {n:Int} {l:List Fd}
end
end Go.Hx
end
section
namespace Go.Hx
section
variable {n:Int} {l:List Fd}
theorem ao2 {L:List AS} {t:AS} (h:∀ x ∈ L,sub x t):sub (orL L) t:=ar.2 fun i hi hb=>by
 unfold orL at hb
 rw [a3e,Bool.or_eq_true] at hb
 rcases hb with hb | hb
 · simp at hb
 · obtain ⟨x,hx,hxb⟩:=List.any_eq_true.1 hb
   exact ar.1 (h x hx) i hi hxb
end
end Go.Hx
end
section
namespace Go.Hx
def ain (E:Int → Int → Prop) (R:Rw → Prop) (s:AS):Prop:=∃ r,R r ∧ ∀ i:Nat,i < r.length → i7 s (i:Int) = true → E (r.getD i default) (i:Int)
section
variable {N:Nat} {p m:List Fd} {E:Int → Int → Prop} {R:Rw → Prop}
theorem ahg {s t:AS} (h:sub s t) {i:Nat} (hi:i7 s (i:Int) = true):i7 t (i:Int) = true:=by
 by_cases hl:i < 32
 · rw [p9 hl] at hi ⊢
   exact ar.1 h i hl hi
 · rw [a17 (by omega)] at hi
   cases hi
theorem ain.mono {s t:AS} (h:ain E R t) (hs:sub s t):ain E R s:=by
 obtain ⟨r,h1,h2⟩:=h
 exact ⟨r,h1,fun i hi hh=>h2 i hi (ahg hs hh)⟩
end
section
variable {n:Int} {p m:List Fd} {ps:List AS}
end
end Go.Hx
end
section
namespace Go.Hx
def lvE (n:Int) (ps:List AS):Int:=if n < 0 ∨ 8 < n then 7 else if 64 < ps.length then 3 else if ps.length = 0 ∨ ¬ orL ps = ah n then 1 else 0
section
variable {n:Int} {ps:List AS} {p m:List Fd}
def lsT (n:Int) (ps:List AS) (p m:List Fd):List St × (Int × List Rw) × Int:=a1h FU n (d7 (po n ps)) p m
def lsC (n:Int) (ps:List AS) (p m:List Fd):Int:=if lvE n ps = 0 then (if ec n p m = 0 then (lsT n ps p m).2.2 else ec n p m) else lvE n ps
def lsB (n:Int) (ps:List AS) (p m:List Fd):Bool:=decide (lsC n ps p m = 0) && (lsT n ps p m).2.1.2.any fun r=>decide (r = sj n)
def auq (n:Int) (p:List Fd) (ps:List AS):Bool:=lsB n ps p [] && !ps.any (o6 p)
end
end Go.Hx
end
section
namespace Go.Hx
abbrev tbC (a:Int × List Rw):Nat → PV:=fun j=>[.raw (.int .i64 a.1),rl a.2].getD j .any
def lcR (n:Int) (ps:List AS) (p m:List Fd):(Int × List Rw) × List St × (Int × List Rw) × Int :=
 if lvE n ps = 0 then (if ec n p m = 0 then ((n,d7 (po n ps)),(lsT n ps p m).1,(lsT n ps p m).2.1,(lsT n ps p m).2.2) else ((0,[]),[],(0,[]),ec n p m)) else ((0,[]),[],(0,[]),lvE n ps)
section
variable {n:Int} {ps:List AS} {p m:List Fd} {l lend:List Rw}
def ar8 (n:Int) (p m:List Fd) (l:List Rw) (sts:List St):List (Int × List Rw):=(trL n p m l sts).map fun t=>(n,t)
def rcR (n:Int) (ps:List AS) (p m:List Fd):List St × List (Int × List Rw) × Int :=
 if lsC n ps p m = 0 then ((lsT n ps p m).1,ar8 n p m (d7 (po n ps)) (lsT n ps p m).1,0) else ([],[],lsC n ps p m)
def as5 (n:Int) (t:List Rw):Bool:=t.any fun r=>decide (r = sj n)
def prX (n:Int) (ps:List AS) (p m:List Fd):Int:=idx (fun a:Int × List Rw=>as5 n a.2) (rcR n ps p m).2.1
def prC (n:Int) (ps:List AS) (p m:List Fd):Int:=if (rcR n ps p m).2.2 = 0 then (if prX n ps p m < 0 then 11 else 0) else (rcR n ps p m).2.2
def prS (n:Int) (ps:List AS) (p m:List Fd):List St:=if (rcR n ps p m).2.2 = 0 then (if prX n ps p m < 0 then [] else (rcR n ps p m).1.take (prX n ps p m).toNat) else []
end
end Go.Hx
end
section
namespace Go.Hx
inductive Lf (l:List Fd):AS → AS → Prop
 | leaf {s:AS}:o6 l s = false → Lf l s s
 | left {s q:AS}:o6 l s = true → Lf l (spA l s) q → Lf l s q
 | right {s q:AS}:o6 l s = true → Lf l (spB l s) q → Lf l s q
def aqk (l:List Fd):Nat → AS → List AS
 | 0,s=>[s]
 | k + 1,s=>if o6 l s = true then aqk l k (spA l s) ++ aqk l k (spB l s) else [s]
end Go.Hx
end
section
namespace Go.Hx
open Go.Proofs
def u8A (b:BitVec 8):AS:=b.setWidth 32
abbrev u8C:BitVec 8 → Nat → PV:=fun b _=>.raw (.int .u8 (b.toNat:Int))
end Go.Hx
end
section
namespace Go.Hx
open Go.Proofs Go.Proofs.YtidophngianjiaaDoor
open Go.RowKit Go.ChangeShapes Go.WideShapes Go.ChangeAt
theorem rd5:Rd Tryd.prog 5 1 u8C:=(ar4 Tryd.underlying5).co (fun u=>u.toBitVec) fun a j hj=>CoP.refl _
theorem ar5:Rd Tryd.prog 88 2 Dp.c:=by
 intro H enc w sp held fuel cs x h
 obtain ⟨hl,n,hf⟩:=acl Tryd.underlying88 h
 obtain ⟨y0,e0⟩:=hf 0 _ rfl
 obtain ⟨y1,e1⟩:=hf 1 _ rfl
 obtain ⟨a0,h0⟩:=a72 rd5 e0
 obtain ⟨a1,h1⟩:=a72 rd5 e1
 refine ⟨hl.trans (by kernel_rfl),(⟨a0,a1⟩:Dp),fun j hj=>?_⟩
 match j,hj with
 | 0,_=>exact h0 0 (by omega)
 | 1,_=>exact h1 0 (by omega)
theorem al8:RdB Tryd.prog 22 1 (anp 2 Dp.c) fun b l=>l.length ≤ b :=
 (aex (B:=fun _ _=>True) (fun _ _ _ _ _=>trivial) Tryd.underlying22 (by kernel_rfl) (by omega) ar5.toB).co id (fun b a h=>h.1) fun a j hj=>CoP.refl _
theorem as4:RdB Tryd.prog 24 2 Dps.c fun b d=>d.l.length ≤ b:=by
 intro H enc w sp held fuel cs x h
 obtain ⟨hl,n,hf⟩:=a28 Tryd.underlying24 h
 obtain ⟨y0,e0⟩:=hf 0 _ rfl
 obtain ⟨y1,e1⟩:=hf 1 _ rfl
 obtain ⟨a0,_,h0⟩:=lc (fun _ _ _ _ _=>trivial) rd5.toB e0
 obtain ⟨a1,hb,h1⟩:=lc (B:=fun b (l:List Dp)=>l.length ≤ b) (fun _ _ _ h k=>Nat.le_trans k h) al8 e1
 refine ⟨hl.trans (by kernel_rfl),(⟨a0,a1⟩:Dps),hb,fun j hj=>?_⟩
 match j,hj with
 | 0,_=>exact h0 0 (by omega)
 | 1,_=>exact h1 0 (by omega)
end Go.Hx
end
section
namespace Go.Hx
theorem ew {a b:AS} (h:∀ i,i < 32 → a.getLsbD i = b.getLsbD i):a = b:=BitVec.eq_of_getLsbD_eq h
theorem ez {s t:AS}:s &&& t = 0 ↔ ∀ i,i < 32 → s.getLsbD i = true → t.getLsbD i = false:=by
 constructor
 · intro h i hi hs
   have:=congrArg (fun x:AS=>x.getLsbD i) h
   simp only [BitVec.getLsbD_and,hs,Bool.true_and] at this
   simpa using this
 · intro h
   apply ew
   intro i hi
   have:=h i hi
   rw [BitVec.getLsbD_and]
   cases hs:s.getLsbD i <;> simp_all
theorem qe {s t:AS} (h:s &&& t ≠ 0):∃ i,i < 32 ∧ s.getLsbD i = true ∧ t.getLsbD i = true:=by
 apply Classical.byContradiction
 intro hn
 refine h (ez.2 fun i hi hs=>?_)
 cases ht:t.getLsbD i with
 | false=>rfl
 | true=>exact absurd ⟨i,hi,hs,ht⟩ hn
theorem a7o {s:AS} (h:s ≠ 0):∃ i,i < 32 ∧ s.getLsbD i = true:=by
 apply Classical.byContradiction
 intro hn
 refine h (ew fun i hi=>?_)
 cases hs:s.getLsbD i with
 | false=>simp
 | true=>exact absurd ⟨i,hi,hs⟩ hn
theorem oz {s:AS} {i:Nat} (h:s.getLsbD i = true):i < 32:=BitVec.lt_of_getLsbD h
theorem bh {s t:AS} {i:Nat} (hi:i < 32):(s &&& ~~~t).getLsbD i = (s.getLsbD i && !t.getLsbD i):=by simp [hi]
def eu (a:Nat):AS:=1#32 <<< a
theorem d4 {a i:Nat} (ha:a < 32) (hi:i < 32):(eu a).getLsbD i = decide (i = a):=by
 unfold eu
 rw [BitVec.getLsbD_shiftLeft]
 by_cases h:i = a
 · subst h;simp [hi]
 · by_cases h2:i < a
   · simp [h,h2,hi]
   · have:i - a ≠ 0:=by omega
     simp [h,h2,hi,BitVec.getLsbD_one,this]
theorem ajy {b:AS} {a:Nat} (ha:a < 32) (h:sub b (eu a)) (hb:b.getLsbD a = true):b = eu a:=by
 apply ew
 intro i hi
 have:=ar.1 h i hi
 rw [d4 ha hi] at this ⊢
 by_cases e:i = a
 · subst e;simp [hb]
 · cases hs:b.getLsbD i
   · simp [e]
   · simp [e,hs] at this
def c4 (m:Fd) (b:AS):Bool:=decide (b &&& m.lhs = 0) && (decide (b &&& m.rhs ≠ 0) && decide (b &&& ~~~m.rhs ≠ 0))
def hdB (m:Fd) (b:AS):AS:=if c4 m b = true then b &&& m.rhs else b
def tlB (m:Fd) (b:AS):List AS:=if c4 m b = true then [b &&& ~~~m.rhs] else []
def stB (m:Fd) (l:List AS) (i:Nat):List AS:=(l.take i).map (hdB m) ++ l.drop i ++ (l.take i).flatMap (tlB m)
def rdB (m:Fd) (l:List AS):List AS:=l.map (hdB m) ++ l.flatMap (tlB m)
def bf (ms:List Fd) (l:List AS):List AS:=ms.foldl (fun l m=>rdB m l) l
def gp:List Fd → List AS → Bool
 | [],_=>false
 | m :: ms,l=>l.any (c4 m) || gp ms (rdB m l)
def nu (ms:List Fd):Nat → List AS → List AS
 | 0,l=>l
 | f + 1,l=>if gp ms l = true then nu ms f (bf ms l) else bf ms l
def muB:List AS → Nat
 | []=>0
 | b :: l=>b.toNat * b.toNat + muB l
theorem a3m:∀ (l k:List AS),muB (l ++ k) = muB l + muB k
 | [],k=>by simp [muB]
 | b :: l,k=>by simp [muB,a3m l k];omega
theorem zb (b r:AS):(b &&& r).toNat + (b &&& ~~~r).toNat = b.toNat:=by
 have h:(b &&& r) &&& (b &&& ~~~r) = 0#32:=ez.2 fun i hi hs=>by
  rw [bh hi]
  rw [BitVec.getLsbD_and,Bool.and_eq_true] at hs
  simp [hs.1,hs.2]
 have e:(b &&& r) + (b &&& ~~~r) = b:=by
  rw [BitVec.add_eq_or_of_and_eq_zero _ _ h]
  apply ew
  intro i hi
  rw [BitVec.getLsbD_or,bh hi,BitVec.getLsbD_and]
  cases b.getLsbD i <;> cases r.getLsbD i <;> rfl
 rw [← BitVec.toNat_add_of_and_eq_zero h,e]
theorem ks {m:Fd} {b:AS}:c4 m b = true ↔ b &&& m.lhs = 0 ∧ b &&& m.rhs ≠ 0 ∧ b &&& ~~~m.rhs ≠ 0:=by simp [c4]
theorem ahj {x y z:Nat} (h:x + y = z) (hx:0 < x) (hy:0 < y):x * x + y * y < z * z:=by
 subst h
 rw [Nat.add_mul,Nat.mul_add,Nat.mul_add]
 have:0 < x * y:=Nat.mul_pos hx hy
 have:0 < y * x:=Nat.mul_pos hy hx
 omega
theorem vi {b:AS} (h:b ≠ 0):0 < b.toNat:=Nat.pos_of_ne_zero fun e=>h (BitVec.eq_of_toNat_eq e)
theorem aek (m:Fd):∀ (l:List AS),muB (l.map (hdB m)) + muB (l.flatMap (tlB m)) + (if l.any (c4 m) = true then 1 else 0) ≤ muB l
 | []=>by simp [muB]
 | b :: l=>by
  have ih:=aek m l
  rw [List.map_cons,List.flatMap_cons,a3m,List.any_cons]
  simp only [muB]
  by_cases h:c4 m b = true
  · obtain ⟨_,h2,h3⟩:=ks.1 h
    have:=ahj (zb b m.rhs) (vi h2) (vi h3)
    simp only [hdB,tlB,h,if_true,muB,Bool.true_or]
    omega
  · rw [Bool.not_eq_true] at h
    simp only [hdB,tlB,h,muB,Bool.false_or,Bool.false_eq_true,if_false]
    omega
theorem an5 (m:Fd) (l:List AS):muB (rdB m l) + (if l.any (c4 m) = true then 1 else 0) ≤ muB l:=by
 unfold rdB
 rw [a3m]
 exact aek m l
theorem a2v:∀ (ms:List Fd) (l:List AS),muB (bf ms l) + (if gp ms l = true then 1 else 0) ≤ muB l
 | [],l=>by simp [bf,gp]
 | m :: ms,l=>by
  have h1:=an5 m l
  have h2:=a2v ms (rdB m l)
  show muB (bf ms (rdB m l)) + _ ≤ _
  simp only [gp]
  by_cases h3:l.any (c4 m) = true <;> by_cases h4:gp ms (rdB m l) = true <;> simp only [h3,h4,Bool.true_or,Bool.or_true,Bool.or_false,if_true,Bool.false_eq_true,if_false] at h1 h2 ⊢ <;> omega
theorem aj7 {m:Fd} {l:List AS} (h:l.any (c4 m) = false):rdB m l = l:=by
 have h':∀ b ∈ l,c4 m b = false:=fun b hb=>by
  have:=List.any_eq_false.1 h b hb
  simpa using this
 have e1:l.map (hdB m) = l:=by
  conv=>rhs;rw [← List.map_id l]
  exact List.map_congr_left fun b hb=>by simp [hdB,h' b hb]
 have e2:l.flatMap (tlB m) = []:=List.flatMap_eq_nil_iff.2 fun b hb=>by simp [tlB,h' b hb]
 simp [rdB,e1,e2]
theorem a7i:∀ {ms:List Fd} {l:List AS},gp ms l = false → bf ms l = l ∧ ∀ m ∈ ms,∀ b ∈ l,c4 m b = false
 | [],l,_=>⟨rfl,fun _ h=>by cases h⟩
 | m :: ms,l,h=>by
  simp only [gp,Bool.or_eq_false_iff] at h
  have e:=aj7 h.1
  rw [e] at h
  obtain ⟨h1,h2⟩:=a7i h.2
  refine ⟨?_,fun k hk b hb=>?_⟩
  · show bf ms (rdB m l) = l
    rw [e]
    exact h1
  · rcases List.mem_cons.1 hk with rfl | hk
    · have:=List.any_eq_false.1 h.1 b hb
      simpa using this
    · exact h2 k hk b hb
structure Blk (ms:List Fd) (rest:AS) (bs:List AS):Prop where
 nz:∀ b ∈ bs,b ≠ 0
 cnt:∀ a,a < 32 → bs.countP (fun b=>b.getLsbD a) = if rest.getLsbD a = true then 1 else 0
 ind:∀ G:AS → Prop,G rest → (∀ m ∈ ms,∀ b,G b → c4 m b = true → G (b &&& m.rhs) ∧ G (b &&& ~~~m.rhs)) → ∀ b ∈ bs,G b
theorem Blk.rd {ms:List Fd} {rest:AS} {bs:List AS} (h:Blk ms rest bs) {m:Fd} (hm:m ∈ ms):Blk ms rest (rdB m bs):=by
 have hmem:∀ {b:AS},b ∈ rdB m bs → ∃ b0 ∈ bs,(c4 m b0 = false ∧ b = b0) ∨ (c4 m b0 = true ∧ (b = b0 &&& m.rhs ∨ b = b0 &&& ~~~m.rhs)):=by
  intro b hb
  unfold rdB at hb
  rcases List.mem_append.1 hb with hb | hb
  · obtain ⟨b0,h0,rfl⟩:=List.mem_map.1 hb
    refine ⟨b0,h0, ?_⟩
    cases hs:c4 m b0 <;> simp [hdB,hs]
  · obtain ⟨b0,h0,hb⟩:=List.mem_flatMap.1 hb
    refine ⟨b0,h0, ?_⟩
    cases hs:c4 m b0
    · simp [tlB,hs] at hb
    · simp [tlB,hs] at hb
      exact .inr ⟨rfl, .inr hb⟩
 refine ⟨fun b hb=>?_,fun a ha=>?_,fun G h0 hG b hb=>?_⟩
 · obtain ⟨b0,h0,⟨_,rfl⟩ | ⟨hs,hb⟩⟩:=hmem hb
   · exact h.nz _ h0
   · obtain ⟨_,h2,h3⟩:=ks.1 hs
     rcases hb with rfl | rfl
     · exact h2
     · exact h3
 · rw [← h.cnt a ha]
   have:∀ l:List AS,(l.map (hdB m)).countP (fun b=>b.getLsbD a) + (l.flatMap (tlB m)).countP (fun b=>b.getLsbD a) = l.countP (fun b=>b.getLsbD a):=by
    intro l
    induction l with
    | nil=>rfl
    | cons b l ih =>
     rw [List.map_cons,List.flatMap_cons,List.countP_append,List.countP_cons,List.countP_cons,← ih]
     cases hs:c4 m b
     · simp [hdB,tlB,hs];omega
     · simp only [hdB,tlB,hs,if_true,List.countP_cons,List.countP_nil,bh ha,BitVec.getLsbD_and]
       cases b.getLsbD a <;> cases m.rhs.getLsbD a <;> simp <;> omega
   unfold rdB
   rw [List.countP_append]
   exact this bs
 · obtain ⟨b0,h1,⟨_,rfl⟩ | ⟨hs,hb⟩⟩:=hmem hb
   · exact h.ind G h0 hG _ h1
   · obtain ⟨g1,g2⟩:=hG m hm b0 (h.ind G h0 hG _ h1) hs
     rcases hb with rfl | rfl
     · exact g1
     · exact g2
theorem Blk.ron {ms:List Fd} {rest:AS}:∀ {ms':List Fd} {bs:List AS},(∀ m ∈ ms',m ∈ ms) → Blk ms rest bs → Blk ms rest (bf ms' bs)
 | [],bs,_,h=>h
 | m :: ms',bs,hm,h=>Blk.ron (ms':=ms') (fun k hk=>hm k (by simp [hk])) (h.rd (hm m (by simp)))
theorem Blk.end_ {ms:List Fd} {rest:AS}:∀ {f:Nat} {bs:List AS},muB bs < f → Blk ms rest bs → Blk ms rest (nu ms f bs) ∧ ∀ m ∈ ms,∀ b ∈ nu ms f bs,c4 m b = false
 | 0,bs,hf,_=>absurd hf (Nat.not_lt_zero _)
 | f + 1,bs,hf,h=>by
  have hr:=h.ron (ms':=ms) (fun _ h=>h)
  unfold nu
  cases hc:gp ms bs
  · obtain ⟨e,hs⟩:=a7i hc
    simp only [Bool.false_eq_true,if_false]
    rw [e]
    exact ⟨h,hs⟩
  · have:=a2v ms bs
    rw [hc] at this
    simp only [if_true] at this ⊢
    exact Blk.end_ (by omega) hr
def fe (rest:AS):List AS:=if rest = 0 then [] else [rest]
theorem Blk.start (ms:List Fd) (rest:AS):Blk ms rest (fe rest):=by
 unfold fe
 by_cases h:rest = 0
 · subst h
   simp only [if_true]
   exact ⟨fun _ h=>by (cases h),fun a ha=>by simp,fun _ _ _ _ h=>by cases h⟩
 · rw [if_neg h]
   exact ⟨fun b hb=>by (simp at hb;subst hb;exact h),fun a ha=>by simp [List.countP_cons],fun G h0 _ b hb=>by (simp at hb;subst hb;exact h0)⟩
theorem a4n (rest:AS):muB (fe rest) < 18446744073709551616:=by
 unfold fe
 split
 · simp [muB]
 · simp only [muB]
   have h:=rest.isLt
   have:=Nat.mul_le_mul (Nat.le_of_lt_succ (show rest.toNat < 4294967295 + 1 from h)) (Nat.le_of_lt_succ (show rest.toNat < 4294967295 + 1 from h))
   omega
def blks (ms:List Fd) (rest:AS):List AS:=nu ms 18446744073709551616 (fe rest)
theorem xj (ms:List Fd) (rest:AS):Blk ms rest (blks ms rest) ∧ ∀ m ∈ ms,∀ b ∈ blks ms rest,c4 m b = false:=Blk.end_ (a4n rest) (Blk.start ms rest)
theorem abb {p:AS → Bool} {l:List AS} (h:l.countP p ≤ 1) {a b:AS} (ha:a ∈ l) (hb:b ∈ l) (pa:p a = true) (pb:p b = true):a = b:=by
 rw [List.countP_eq_length_filter] at h
 have h1:a ∈ l.filter p:=List.mem_filter.2 ⟨ha,pa⟩
 have h2:b ∈ l.filter p:=List.mem_filter.2 ⟨hb,pb⟩
 cases hl:l.filter p with
 | nil=>rw [hl] at h1;cases h1
 | cons x r =>
  rw [hl] at h h1 h2
  cases r with
  | nil=>simp at h1 h2;rw [h1,h2]
  | cons=>simp at h
theorem Blk.one {ms:List Fd} {rest:AS} {bs:List AS} (h:Blk ms rest bs) {b b':AS} (hb:b ∈ bs) (hb':b' ∈ bs) {a:Nat} (h1:b.getLsbD a = true) (h2:b'.getLsbD a = true):b = b':=by
 refine abb (p:=fun b=>b.getLsbD a) ?_ hb hb' h1 h2
 rw [h.cnt a (oz h1)]
 split <;> omega
theorem Blk.cov {ms:List Fd} {rest:AS} {bs:List AS} (h:Blk ms rest bs) {a:Nat} (ha:rest.getLsbD a = true):∃ b ∈ bs,b.getLsbD a = true:=by
 have:=h.cnt a (oz ha)
 rw [if_pos ha] at this
 exact List.countP_pos_iff.1 (by omega)
theorem Blk.sub {ms:List Fd} {rest:AS} {bs:List AS} (h:Blk ms rest bs) {b:AS} (hb:b ∈ bs):Go.Hx.sub b rest:=ar.2 fun a ha hba=>by
 have h1:=h.cnt a ha
 have h2:0 < bs.countP (fun b=>b.getLsbD a):=List.countP_pos_iff.2 ⟨b,hb,hba⟩
 cases hr:rest.getLsbD a with
 | true=>rfl
 | false=>rw [hr] at h1;simp only [Bool.false_eq_true,if_false] at h1;omega
end Go.Hx
end

/- A part of the proof: Cc1 Cc2 Cc3 Ls1 Cs24 V23 Cs26 Cs27 Cs28 Cs30 Cs31 Cs32 Cs33 Cs34 Cs35 Cs36 Cz1m Cs37 Cs40 Cs42 Ls2 Ls3. -/
import Derived.Test.YtidophngianjiaaGreatDoorBx19
import Derived.Test.YtidophngianjiaaGreatDoorBx29
set_option linter.all false
section
namespace Go.Hx
def AgE (E:Int → Int → Prop) (a b:Rw) (s:AS):Prop:=∀ i:Nat,i < a.length → c4 s (i:Int) = true → E (a.getD i default) (b.getD i default)
structure Mdl (N:Nat) (p m:List Fd) (E:Int → Int → Prop) (R:Rw → Prop):Prop where
 refl:∀ x,E x x
 symm:∀ {x y},E x y → E y x
 trans:∀ {x y z},E x y → E y z → E x z
 len:∀ {r},R r → r.length = N
 cong:∀ {r r':Rw},R r → r'.length = r.length → (∀ i,i < r.length → E (r.getD i default) (r'.getD i default)) → R r'
 fd:∀ {x},x ∈ p → ∀ {a b},R a → R b → AgE E a b x.lhs → AgE E a b x.rhs
 mv:∀ {x},x ∈ m → ∀ {a b},R a → R b → AgE E a b x.lhs → R (d5 a b (x.lhs ||| x.rhs))
def LE (N:Nat) (p m:List Fd) (l:List Rw) (x y:Int):Prop:=∀ E R,Mdl N p m E R → (∀ r,r ∈ l → R r) → E x y
def LR (N:Nat) (p m:List Fd) (l:List Rw) (r:Rw):Prop:=∀ E R,Mdl N p m E R → (∀ r,r ∈ l → R r) → R r
theorem aur (N:Nat) (p m:List Fd):Mdl N p m (fun _ _=>True) (fun r=>r.length = N) :=
 ⟨fun _=>trivial,fun _=>trivial,fun _ _=>trivial,fun h=>h,fun h e _=>e.trans h,fun _ _ _ _ _ _ _ _ _=>trivial,fun _ a b _ hb _=>(ju _ _ _).trans hb⟩
theorem a1l {N:Nat} {p m:List Fd} {l:List Rw} (hl:∀ r,r ∈ l → r.length = N):Mdl N p m (LE N p m l) (LR N p m l) where
 refl x:=fun E R h _=>h.refl x
 symm h:=fun E R k kl=>k.symm (h E R k kl)
 trans h h2:=fun E R k kl=>k.trans (h E R k kl) (h2 E R k kl)
 len h:=h _ _ (aur N p m) hl
 cong h e h2:=fun E R k kl=>k.cong (h E R k kl) e fun i hi=>h2 i hi E R k kl
 fd hx _ _ ha hb hl:=fun i hi hs E R k kl=>k.fd hx (ha E R k kl) (hb E R k kl) (fun j hj hh=>hl j hj hh E R k kl) i hi hs
 mv hx _ _ ha hb hl:=fun E R k kl=>k.mv hx (ha E R k kl) (hb E R k kl) fun j hj hh=>hl j hj hh E R k kl
structure Ch (N:Nat) (p m:List Fd) (l0 l:List Rw) (σ:Int → Int):Prop where
 rows:∀ r,r ∈ l → LR N p m l0 r
 sym:∀ s,LE N p m l0 s (σ s)
 img:∀ r,r ∈ l0 → r.map σ ∈ l
 fix:∀ r,r ∈ l → ∀ z,z ∈ r → σ z = z
 le:∀ s,σ s ≤ s
section
variable {N:Nat} {p m:List Fd} {l0 l l':List Rw} {σ σ':Int → Int} {n:Int}
theorem Ch.start:Ch N p m l0 l0 id:=⟨fun r hr E R _ hl=>hl r hr,fun s E R k _=>k.refl s,fun r hr=>by rw [List.map_id];exact hr,fun _ _ _ _=>rfl,fun s=>Int.le_refl s⟩
theorem Ch.congr (h:Ch N p m l0 l σ) (e:∀ r,r ∈ l' ↔ r ∈ l):Ch N p m l0 l' σ :=
 ⟨fun r hr=>h.rows r ((e r).1 hr),h.sym,fun r hr=>(e _).2 (h.img r hr),fun r hr=>h.fix r ((e r).1 hr),h.le⟩
def n8 (hi lo z:Int):Int:=if z = hi then lo else z
theorem j2 {f:Int → Int} {r:Rw} {i:Nat} (h:i < r.length):(r.map f).getD i default = f (r.getD i default):=by
 rw [List.getD_eq_getElem?_getD,List.getElem?_map,List.getElem?_eq_getElem h,List.getD_eq_getElem?_getD,List.getElem?_eq_getElem h]
 rfl
theorem Ch.sub (hl0:∀ r,r ∈ l0 → r.length = N) (h:Ch N p m l0 l σ) {hi lo:Int} (hE:LE N p m l0 hi lo) (hle:lo ≤ hi) (hin:∃ r,r ∈ l ∧ lo ∈ r):Ch N p m l0 (l.map fun r=>r.map (n8 hi lo)) (fun s=>n8 hi lo (σ s)):=by
 have hm:=a1l (p:=p) (m:=m) hl0
 have hs:∀ z,LE N p m l0 z (n8 hi lo z):=fun z=>by
  unfold n8
  split
  · rename_i e;rw [e];exact hE
  · exact hm.refl z
 refine ⟨fun r hr=>?_,fun s=>hm.trans (h.sym s) (hs _),fun r hr=>?_,fun r hr z hz=>?_,fun s=>?_⟩
 · obtain ⟨r0,h0,rfl⟩:=List.mem_map.1 hr
   exact hm.cong (h.rows r0 h0) (by simp) fun i hi=>by rw [j2 hi];exact hs _
 · refine List.mem_map.2 ⟨_,h.img r hr, ?_⟩
   rw [List.map_map]
   rfl
 · obtain ⟨r0,h0,rfl⟩:=List.mem_map.1 hr
   obtain ⟨y,hy,rfl⟩:=List.mem_map.1 hz
   obtain ⟨r1,h1,h2⟩:=hin
   have e1:=h.fix r0 h0 y hy
   have e2:=h.fix r1 h1 lo h2
   by_cases e:y = hi
   · have e3:n8 hi lo y = lo:=if_pos e
     show n8 hi lo (σ (n8 hi lo y)) = n8 hi lo y
     rw [e3,e2]
     unfold n8
     split <;> rfl
   · have e3:n8 hi lo y = y:=if_neg e
     show n8 hi lo (σ (n8 hi lo y)) = n8 hi lo y
     rw [e3,e1,e3]
 · have h1:=h.le s
   have h2:n8 hi lo (σ s) ≤ σ s:=by
    unfold n8
    split <;> omega
   exact Int.le_trans h2 h1
theorem aj9 {M:Nat → Nat → Int} {a b j:Nat}:dj l (eqM M a b j) = (dj l M).map fun r=>r.map (n8 (hiI (M a j) (M b j)) (loI (M a j) (M b j))):=by
 unfold dj
 rw [List.map_map]
 refine List.map_congr_left fun i _=>?_
 show _ = List.map _ (List.map _ _)
 rw [List.map_map]
 rfl
theorem al1 {M:Nat → Nat → Int} {a j:Nat} (ha:a < l.length) (hj:j < (l.getD a default).length):∃ r,r ∈ dj l M ∧ M a j ∈ r :=
 a3p.2 ⟨a,j,ha,hj,rfl⟩
theorem Ch.eqMs (hl0:∀ r,r ∈ l0 → r.length = N) {a b:Nat} (ha:a < l.length) (hb:b < l.length):∀ {js:List Nat} {M:Nat → Nat → Int} {σ:Int → Int},Ch N p m l0 (dj l M) σ → (∀ j,j ∈ js → j < (l.getD a default).length ∧ j < (l.getD b default).length ∧ LE N p m l0 (M a j) (M b j)) →
 ∃ σ',Ch N p m l0 (dj l (eqMs M a b js)) σ'
 | [],M,σ,h,_=>⟨σ,h⟩
 | j :: js,M,σ,h,hj=>by
  obtain ⟨h1,h2,h3⟩:=hj j (by simp)
  have hm:=a1l (p:=p) (m:=m) hl0
  have hlo:loI (M a j) (M b j) ≤ hiI (M a j) (M b j):=by unfold loI hiI;split <;> split <;> omega
  have hE:LE N p m l0 (hiI (M a j) (M b j)) (loI (M a j) (M b j)):=by
   rcases at4 (M a j) (M b j) with e | e <;> rcases aji (M a j) (M b j) with f | f <;> rw [e,f]
   · exact hm.refl _
   · exact h3
   · exact hm.symm h3
   · exact hm.refl _
  have hin:∃ r,r ∈ dj l M ∧ loI (M a j) (M b j) ∈ r:=by
   rcases aji (M a j) (M b j) with f | f <;> rw [f]
   · exact al1 ha h1
   · exact al1 hb h2
  have hq:=h.sub hl0 hE hlo hin
  rw [← aj9] at hq
  have hs:∀ z,LE N p m l0 z (if z = hiI (M a j) (M b j) then loI (M a j) (M b j) else z):=fun z=>by
   split
   · rename_i e;rw [e];exact hE
   · exact hm.refl z
  exact Ch.eqMs hl0 ha hb (js:=js) hq fun k hk=>by
   obtain ⟨h4,h5,h6⟩:=hj k (by simp [hk])
   exact ⟨h4,h5,hm.trans (hm.symm (hs (M a k))) (hm.trans h6 (hs (M b k)))⟩
theorem af4:dj l (c5 l) = l:=by
 refine mq (jn _ _) fun i hi=>?_
 rw [jn] at hi
 rw [a97 hi]
 refine mq (by simp) fun k hk=>?_
 simp only [List.length_map,List.length_range] at hk
 rw [List.getD_eq_getElem?_getD,List.getElem?_map,List.getElem?_range hk]
 rfl
theorem aiz (hl0:∀ r,r ∈ l0 → r.length = N) {a b:Rw} {s:AS} (h:j0 a b s = true):AgE (LE N p m l0) a b s:=fun i hi hs=>by
 rw [of_decide_eq_true h i hi hs]
 exact (a1l hl0).refl _
theorem eu {α:Type} [Inhabited α] {l:List α} {i:Nat} (h:i < l.length):l.getD i default ∈ l:=by
 rw [List.getD_eq_getElem?_getD,List.getElem?_eq_getElem h]
 exact List.getElem_mem h
theorem aox {a b:Rw} {s:AS} (hl:a.length = b.length) {z:Int} (hz:z ∈ d5 a b s):z ∈ a ∨ z ∈ b:=by
 unfold d5 at hz
 rw [List.mem_map] at hz
 obtain ⟨i,hi,rfl⟩:=hz
 have hi:=List.mem_range.1 hi
 split
 · exact .inl (eu (by omega))
 · exact .inr (eu hi)
def ay7 (l:List Rw) (p m:List Fd) (s:St):Prop:=s.2.2.1 < l.length ∧ s.2.2.2 < l.length ∧ (s.1 = false → s.2.1 < p.length) ∧ (s.1 = true → s.2.1 < m.length)
theorem Ch.app (hl0:∀ r,r ∈ l0 → r.length = n.toNat) (hT:tok n l = true) (hp:p.all (inU n) = true) (h:Ch n.toNat p m l0 l σ) {s:St} (hs:ay7 l p m s) (he:(dn n l p m s).2.2 = 0) :
 (dn n l p m s).1 = n ∧ ∃ σ',Ch n.toNat p m l0 (dn n l p m s).2.1 σ':=by
 obtain ⟨mu,i,a,b⟩:=s
 obtain ⟨ha,hb,hf,hv⟩:=hs
 obtain ⟨h0,h1,h2,h3⟩:=go hT
 have ha:a < l.length:=ha
 have hb:b < l.length:=hb
 have hra:=h3 a ha
 have hrb:=h3 b hb
 cases mu with
 | false =>
  have hi:i < p.length:=hf rfl
  have e0:dn n l p m (false,i,a,b) = fdE n l a b (p.getD i default):=rfl
  rw [e0] at he ⊢
  by_cases hg:j0 (l.getD a default) (l.getD b default) (p.getD i default).lhs = true
  · have e1:fdE n l a b (p.getD i default) = (n,ay (dj l (Go.Hx.eqMs (c5 l) a b (az (p.getD i default).rhs))),0):=if_pos hg
    rw [e1]
    refine ⟨rfl, ?_⟩
    have hu:inU n (p.getD i default) = true:=List.all_eq_true.1 hp _ (eu hi)
    have hm:=a1l (p:=p) (m:=m) hl0
    have hR:=hm.fd (eu hi) (h.rows _ (eu ha)) (h.rows _ (eu hb)) (aiz hl0 hg)
    obtain ⟨σ',hσ⟩:=Ch.eqMs (p:=p) (m:=m) hl0 ha hb (js:=az (p.getD i default).rhs) (M:=c5 l) (σ:=σ) (by rw [af4];exact h) fun j hj=>by
     have h4:=a1w h0 h1 hu hj
     have h5:=jh.1 hj
     refine ⟨Nat.lt_of_lt_of_eq h4 hra.symm,Nat.lt_of_lt_of_eq h4 hrb.symm,hR j (Nat.lt_of_lt_of_eq h4 hra.symm) (by rw [cj h5.1];exact h5.2)⟩
    exact ⟨σ',hσ.congr fun r=>ff⟩
  · have e1:fdE n l a b (p.getD i default) = (0,[],1):=if_neg hg
    rw [e1] at he
    exact absurd he (by decide)
 | true =>
  have hi:i < m.length:=hv rfl
  have e0:dn n l p m (true,i,a,b) = mvE n l a b (m.getD i default):=rfl
  rw [e0] at he ⊢
  by_cases hg:j0 (l.getD a default) (l.getD b default) (m.getD i default).lhs = true
  · have e1:mvE n l a b (m.getD i default) = qq n l (d5 (l.getD a default) (l.getD b default) ((m.getD i default).lhs ||| (m.getD i default).rhs)):=if_pos hg
    rw [e1] at he ⊢
    by_cases hbig:256 < (ay (l ++ [d5 (l.getD a default) (l.getD b default) ((m.getD i default).lhs ||| (m.getD i default).rhs)])).length
    · have e2:qq n l (d5 (l.getD a default) (l.getD b default) ((m.getD i default).lhs ||| (m.getD i default).rhs)) = (0,[],3):=if_pos hbig
      rw [e2] at he
      exact absurd he (by decide)
    · have e2:qq n l (d5 (l.getD a default) (l.getD b default) ((m.getD i default).lhs ||| (m.getD i default).rhs)) = (n,ay (l ++ [d5 (l.getD a default) (l.getD b default) ((m.getD i default).lhs ||| (m.getD i default).rhs)]),0):=if_neg hbig
      rw [e2]
      refine ⟨rfl,σ, ?_⟩
      have hm:=a1l (p:=p) (m:=m) hl0
      have hR:=hm.mv (eu hi) (h.rows _ (eu ha)) (h.rows _ (eu hb)) (aiz hl0 hg)
      refine ⟨fun r hr=>?_,h.sym,fun r hr=>ff.2 (List.mem_append_left _ (h.img r hr)),fun r hr z hz=>?_,h.le⟩
      · rcases List.mem_append.1 (ff.1 hr) with h4 | h4
        · exact h.rows r h4
        · rw [List.mem_singleton.1 h4];exact hR
      · rcases List.mem_append.1 (ff.1 hr) with h4 | h4
        · exact h.fix r h4 z hz
        · rw [List.mem_singleton.1 h4] at hz
          rcases aox (by omega) hz with h5 | h5
          · exact h.fix _ (eu ha) z h5
          · exact h.fix _ (eu hb) z h5
  · have e1:mvE n l a b (m.getD i default) = (0,[],1):=if_neg hg
    rw [e1] at he
    exact absurd he (by decide)
theorem a6f {P:Nat → Nat → Nat → Bool} {I L:Nat} (h:eo P I L = none) {i a b:Nat} (hi:i < I) (ha:a < L) (hb:b < L):P i a b = false:=by
 unfold eo at h
 rw [List.findSome?_eq_none_iff] at h
 have h1:=h i (List.mem_range.2 hi)
 rw [List.findSome?_eq_none_iff] at h1
 have h2:=h1 a (List.mem_range.2 ha)
 rw [Option.map_eq_none_iff,List.find?_eq_none] at h2
 exact Bool.eq_false_iff.2 (h2 b (List.mem_range.2 hb))
theorem akd (h:dp l p m = none):(∀ i,i < p.length → ∀ a,a < l.length → ∀ b,b < l.length → dx l (p.getD i default) a b = false) ∧ ∀ i,i < m.length → ∀ a,a < l.length → ∀ b,b < l.length → ek l (m.getD i default) a b = false:=by
 unfold dp at h
 split at h
 · cases h
 · rename_i e
   rw [Option.map_eq_none_iff] at h
   exact ⟨fun i hi a ha b hb=>a6f (P:=fun i a b=>dx l (p.getD i default) a b) e hi ha hb,fun i hi a ha b hb=>a6f (P:=fun i a b=>ek l (m.getD i default) a b) h hi ha hb⟩
theorem rz {α:Type} [Inhabited α] {l:List α} {x:α} (h:x ∈ l):∃ i,i < l.length ∧ l.getD i default = x:=by
 obtain ⟨i,hi,rfl⟩:=List.getElem_of_mem h
 exact ⟨i,hi,by rw [List.getD_eq_getElem?_getD,List.getElem?_eq_getElem hi];rfl⟩
theorem asd {f:Int → Int} {a b:Rw} {s:AS} (hl:a.length = b.length):d5 (a.map f) (b.map f) s = (d5 a b s).map f:=by
 unfold d5
 rw [List.map_map,List.length_map]
 refine List.map_congr_left fun i hi=>?_
 have hi:=List.mem_range.1 hi
 show _ = f (if c4 s (i:Int) = true then a.getD i default else b.getD i default)
 split
 · rw [j2 (by omega)]
 · rw [j2 hi]
theorem Ch.mdl (hT:tok n l = true) (hn:dp l p m = none) (σ:Int → Int):Mdl n.toNat p m (fun x y=>σ x = σ y) (fun r=>r.length = n.toNat ∧ r.map σ ∈ l):=by
 obtain ⟨hF,hM⟩:=akd hn
 refine ⟨fun _=>rfl,fun h=>h.symm,fun h k=>h.trans k,fun h=>h.1,fun {r r'} h e h2=>⟨e.trans h.1, ?_⟩,fun {x} hx {a b} ha hb hl i hi hs=>?_,fun {x} hx {a b} ha hb hl=>⟨(ju _ _ _).trans hb.1, ?_⟩⟩
 · have:r'.map σ = r.map σ:=by
    refine mq (by simp [e]) fun i hi=>?_
    rw [List.length_map] at hi
    rw [j2 hi,j2 (by omega)]
    exact (h2 i (by omega)).symm
   rw [this];exact h.2
 · obtain ⟨k,hk,rfl⟩:=rz hx
   obtain ⟨ia,hia,ea⟩:=rz ha.2
   obtain ⟨ib,hib,eb⟩:=rz hb.2
   have h1:=hF k hk ia hia ib hib
   unfold dx at h1
   rw [ea,eb,y8 (fun j hj hs=>by rw [List.length_map] at hj;rw [j2 hj,j2 (by rw [hb.1,← ha.1];exact hj)];exact hl j hj hs),Bool.true_and,Bool.not_eq_false'] at h1
   have h2:=of_decide_eq_true h1 i (by rw [List.length_map];exact hi) hs
   rw [j2 hi,j2 (by rw [hb.1,← ha.1];exact hi)] at h2
   exact h2
 · obtain ⟨k,hk,rfl⟩:=rz hx
   obtain ⟨ia,hia,ea⟩:=rz ha.2
   obtain ⟨ib,hib,eb⟩:=rz hb.2
   have h1:=hM k hk ia hia ib hib
   unfold ek at h1
   rw [ea,eb,y8 (fun j hj hs=>by rw [List.length_map] at hj;rw [j2 hj,j2 (by rw [hb.1,← ha.1];exact hj)];exact hl j hj hs),Bool.true_and,Bool.not_eq_false'] at h1
   obtain ⟨r,hr,e⟩:=List.any_eq_true.1 h1
   rw [← asd (by rw [ha.1,hb.1]),← of_decide_eq_true e]
   exact hr
theorem Ch.has (h:Ch n.toNat p m l0 l σ) (hT:tok n l = true) (hl0:∀ r,r ∈ l0 → r.length = n.toNat) (hn:dp l p m = none):(∀ x y,LE n.toNat p m l0 x y → σ x = σ y) ∧ ∀ r,LR n.toNat p m l0 r → r.map σ ∈ l:=by
 have hm:=Ch.mdl (p:=p) (m:=m) hT hn σ
 have hl:∀ r,r ∈ l0 → r.length = n.toNat ∧ r.map σ ∈ l:=fun r hr=>⟨hl0 r hr,h.img r hr⟩
 exact ⟨fun x y e=>e _ _ hm hl,fun r e=>(e _ _ hm hl).2⟩
theorem a74 {f:Int → Int}:∀ {r:Rw},(∀ z,z ∈ r → f z = z) → r.map f = r
 | [],_=>rfl
 | z :: r,h=>by rw [List.map_cons,h z (by simp),a74 fun y hy=>h y (by simp [hy])]
theorem Ch.mem (h:Ch n.toNat p m l0 l σ) (hT:tok n l = true) (hl0:∀ r,r ∈ l0 → r.length = n.toNat) (hn:dp l p m = none) {r:Rw}:r ∈ l ↔ LR n.toNat p m l0 r ∧ r.map σ = r:=by
 constructor
 · intro hr
   exact ⟨h.rows r hr,a74 (h.fix r hr)⟩
 · rintro ⟨h1,h2⟩
   rw [← h2]
   exact (h.has hT hl0 hn).2 r h1
end
end Go.Hx
end
section
namespace Go.Hx
def b1n:List (List Int) → List Rw
 | []=>[[]]
 | c :: cs=>c.flatMap fun z=>(b1n cs).map fun r=>z :: r
section
variable {N:Nat} {p m:List Fd} {l0 l:List Rw}
theorem lb {a b:Rw} {s:AS} {i:Nat} (h:i < b.length):(d5 a b s).getD i default = if c4 s (i:Int) = true then a.getD i default else b.getD i default:=by
 unfold d5
 rw [List.getD_eq_getElem?_getD,List.getElem?_map,List.getElem?_range h]
 rfl
theorem apm (C:Nat → List Int) (hd:∀ i j z,z ∈ C i → z ∈ C j → i = j):Mdl N p m (fun x y=>x = y ∨ ∃ i,x ∈ C i ∧ y ∈ C i) (fun r=>r.length = N ∧ ∀ i,i < N → r.getD i default ∈ C i) where
 refl _:=.inl rfl
 symm h:=by
  rcases h with h | ⟨i,h,k⟩
  · exact .inl h.symm
  · exact .inr ⟨i,k,h⟩
 trans h h2:=by
  rcases h with h | ⟨i,h,k⟩
  · rw [h];exact h2
  · rcases h2 with h2 | ⟨j,h2,k2⟩
    · rw [← h2];exact .inr ⟨i,h,k⟩
    · have:=hd i j _ k h2
      subst this
      exact .inr ⟨i,h,k2⟩
 len h:=h.1
 cong h e h2:=⟨e.trans h.1,fun i hi=>by
  have h3:=h.2 i hi
  rcases h2 i (by rw [h.1];exact hi) with h4 | ⟨j,h4,h5⟩
  · rw [← h4];exact h3
  · have:=hd i j _ h3 h4
    subst this
    exact h5⟩
 fd _ a b ha hb _:=fun i hi _=>.inr ⟨i,ha.2 i (by rw [← ha.1];exact hi),hb.2 i (by rw [← ha.1];exact hi)⟩
 mv _ a b ha hb _:=⟨(ju _ _ _).trans hb.1,fun i hi=>by
  rw [lb (by rw [hb.1];exact hi)]
  split
  · exact ha.2 i hi
  · exact hb.2 i hi⟩
def b2i (N:Nat) (p m:List Fd) (l0:List Rw):Prop:=∀ l,lx l → (∀ r,r ∈ l → LR N p m l0 r) → l.length ≤ 256
end
section
variable {p m:List Fd} {l0 l:List Rw} {n:Int} {σ:Int → Int}
theorem agx {s:St} (h:w7 l p m s):ay7 l p m s:=by
 obtain ⟨h1,h2,h3⟩:=h
 refine ⟨h1,h2,fun e=>?_,fun e=>?_⟩
 · rcases h3 with ⟨_,h,_⟩ | ⟨h,_⟩
   · exact h
   · rw [e] at h;cases h
 · rcases h3 with ⟨h,_⟩ | ⟨_,h,_⟩
   · rw [e] at h;cases h
   · exact h
theorem Ch.code (h0:tok n l0 = true) (hS:b2i n.toNat p m l0) (hp:p.all (inU n) = true) (hT:tok n l = true) (h:Ch n.toNat p m l0 l σ) {s:St} (hs:w7 l p m s):(dn n l p m s).2.2 = 0:=by
 rcases aeq hT hp hs with e | ⟨l',e,_⟩
 · obtain ⟨mu,i,a,b⟩:=s
   obtain ⟨ha,hb,hs | hs⟩:=hs
   · obtain ⟨h1,h2,h3⟩:=hs
     cases h1
     have h4:dn n l p m (false,i,a,b) = fdE n l a b (p.getD i default):=rfl
     have hg:=(aik hT (List.all_eq_true.1 hp _ (eu h2)) ha hb h3).1
     have hg:fdE n l a b (p.getD i default) = (n,fdL l a b (p.getD i default),0):=hg
     rw [h4,hg] at e ⊢
   · obtain ⟨h1,h2,h3⟩:=hs
     cases h1
     have h4:dn n l p m (true,i,a,b) = mvE n l a b (m.getD i default):=rfl
     have h5:ek l (m.getD i default) a b = true:=h3
     unfold ek at h5
     rw [Bool.and_eq_true] at h5
     have h6:mvE n l a b (m.getD i default) = qq n l (d5 (l.getD a default) (l.getD b default) ((m.getD i default).lhs ||| (m.getD i default).rhs)):=if_pos h5.1
     have hl0:∀ r,r ∈ l0 → r.length = n.toNat:=fun r hr=>(tq h0 r hr).1
     have h7:=hS (ay (l ++ [d5 (l.getD a default) (l.getD b default) ((m.getD i default).lhs ||| (m.getD i default).rhs)])) (gf _) fun r hr=>by
      rcases List.mem_append.1 (ff.1 hr) with h8 | h8
      · exact h.rows r h8
      · rw [List.mem_singleton.1 h8]
        exact (a1l hl0).mv (eu h2) (h.rows _ (eu ha)) (h.rows _ (eu hb)) (aiz hl0 h5.1)
     rw [h4,h6]
     unfold qq
     rw [if_neg (by omega)]
 · rw [e]
def TrZ (n:Int) (p m:List Fd) (lend:List Rw):List Rw → List St → Prop
 | l,[]=>l = lend
 | l,s :: r=>tok n l = true ∧ w7 l p m s ∧ ∃ l',dn n l p m s = (n,l',0) ∧ ¬ l' = l ∧ TrZ n p m lend l' r
end
def stC (n:Int) (ps:List AS) (c:Nat):List Int:=if c < n.toNat then (List.range ps.length).map fun i=>stV n i (ps.getD i default) c else []
section
variable {n:Int} {ps:List AS} {p m:List Fd}
theorem avf (h0:0 ≤ n) {i c:Nat} {q:AS} (hc:c < n.toNat):stV n i q c % n = (c:Int):=by
 unfold stV
 split
 · exact Int.emod_eq_of_lt (by omega) (by omega)
 · have e:n + (i:Int) * n + (c:Int) = (c:Int) + n * (1 + (i:Int)):=by rw [Int.mul_add,Int.mul_one,Int.mul_comm (i:Int) n];omega
   rw [e,Int.add_mul_emod_self_left]
   exact Int.emod_eq_of_lt (by omega) (by omega)
theorem a8u (h0:0 ≤ n) {c:Nat} {z:Int} (h:z ∈ stC n ps c):c < n.toNat ∧ z % n = (c:Int):=by
 unfold stC at h
 split at h
 · rename_i hc
   obtain ⟨i,_,rfl⟩:=List.mem_map.1 h
   exact ⟨hc,avf h0 hc⟩
 · simp at h
theorem aw4 (h0:0 ≤ n):∀ i j z,z ∈ stC n ps i → z ∈ stC n ps j → i = j:=fun i j z h k=>by
 have h1:=(a8u h0 h).2
 have h2:=(a8u h0 k).2
 omega
theorem a69 {r:Rw} (hr:r ∈ bj n ps):r.length = n.toNat ∧ ∀ i,i < n.toNat → r.getD i default ∈ stC n ps i:=by
 unfold bj at hr
 obtain ⟨k,hk,rfl⟩:=List.mem_map.1 hr
 refine ⟨a2k _ _ _,fun i hi=>?_⟩
 rw [a6i hi]
 unfold stC
 rw [if_pos hi]
 exact List.mem_map.2 ⟨k,hk,rfl⟩
end
end Go.Hx
end
section
namespace Go.Hx
section
variable {n:Int} {ps:List AS} {p m:List Fd} {l l0:List Rw} {σ:Int → Int}
theorem azz {N:Nat} {l l':List Rw} (h:∀ r,r ∈ l ↔ r ∈ l') {r:Rw}:LR N p m l r ↔ LR N p m l' r :=
 ⟨fun k E R hm hl=>k E R hm fun r hr=>hl r ((h r).1 hr),fun k E R hm hl=>k E R hm fun r hr=>hl r ((h r).2 hr)⟩
theorem alx (h0:0 ≤ n) {c:Nat} {z:Int} (h:z ∈ stC n ps c):z = (c:Int) ∨ n ≤ z:=by
 unfold stC at h
 split at h
 · obtain ⟨i,_,rfl⟩:=List.mem_map.1 h
   unfold stV
   split
   · exact .inl rfl
   · right
     have:=Int.mul_nonneg (show (0:Int) ≤ (i:Int) by omega) h0
     omega
 · simp at h
theorem Ch.first (h0:0 ≤ n) (h:Ch n.toNat p m (ay (bj n ps)) l σ):(ct n).map σ = ct n:=by
 refine a74 fun z hz=>?_
 unfold ct at hz
 obtain ⟨c,hc,rfl⟩:=List.mem_map.1 hz
 have hc:=List.mem_range.1 hc
 have h1:=h.sym (c:Int) _ _ (apm (stC n ps) (aw4 h0)) fun r hr=>a69 (ff.1 hr)
 rcases h1 with h1 | ⟨i,h1,h2⟩
 · exact h1.symm
 · have h3:=(a8u h0 h1).2
   have h4:=Int.emod_eq_of_lt (a:=(c:Int)) (b:=n) (by omega) (by omega)
   have h5:i = c:=by omega
   subst h5
   have h6:=h.le (i:Int)
   rcases alx h0 h2 with h7 | h7
   · exact h7
   · omega
theorem vz {r:Rw}:(l.any fun x=>decide (x = r)) = decide (r ∈ l):=by
 rw [Bool.eq_iff_iff,List.any_eq_true,decide_eq_true_iff]
 constructor
 · rintro ⟨x,hx,e⟩
   rw [← of_decide_eq_true e];exact hx
 · intro h
   exact ⟨r,h,decide_eq_true rfl⟩
def swI (n z:Int):Int:=if n ≤ z ∧ z < 2 * n then z + n else if 2 * n ≤ z ∧ z < 3 * n then z - n else z
abbrev b59 (n:Int) (x:Fd):Fd:=⟨x.lhs,af n &&& ~~~(x.lhs ||| x.rhs)⟩
end
end Go.Hx
end
section
namespace Go.Hx
section
variable {n:Int} {p m:List Fd} {l0 l:List Rw} {σ:Int → Int}
theorem aqp (hT:tok n l = true) (hp:p.all (inU n) = true) (hm:m = []) {s:St} (hs:w7 l p m s):(dn n l p m s).2.2 = 0:=by
 obtain ⟨mu,i,a,b⟩:=s
 obtain ⟨ha,hb,hs | hs⟩:=hs
 · obtain ⟨h1,h2,h3⟩:=hs
   cases h1
   have h4:dn n l p m (false,i,a,b) = fdE n l a b (p.getD i default):=rfl
   have hg:fdE n l a b (p.getD i default) = (n,fdL l a b (p.getD i default),0):=(aik hT (List.all_eq_true.1 hp _ (eu h2)) ha hb h3).1
   rw [h4,hg]
 · obtain ⟨_,h2,_⟩:=hs
   subst hm
   exact absurd h2 (Nat.not_lt_zero _)
theorem al9 (hl0:∀ r,r ∈ l0 → r.length = n.toNat) (hp:p.all (inU n) = true) (Z:List Int):∀ (F:Nat) (l:List Rw) (acc:List St) (σ:Int → Int),tok n l = true → Ch n.toNat p m l0 l σ → Cov Z l → muC Z l < F →
 (fv F n l p m acc = ([],(0,[]),3) ∧ ¬ m = []) ∨ ∃ sts lend σ',fv F n l p m acc = (acc ++ sts,(n,lend),0) ∧ Ch n.toNat p m l0 lend σ' ∧ tok n lend = true ∧ dp lend p m = none ∧ TrZ n p m lend l sts:=by
 intro F
 induction F with
 | zero=>intro _ _ _ _ _ _ h;exact absurd h (Nat.not_lt_zero _)
 | succ F ih =>
  intro l acc σ hT hC hZ hF
  cases hn:dp l p m with
  | none=>exact .inr ⟨[],l,σ,by rw [a6j (by omega) hn,List.append_nil],hC,hT,hn,rfl⟩
  | some s =>
   have hs:=a2v hn
   rcases aeq hT hp hs with e | ⟨l',e,hT',h3⟩
   · left
     refine ⟨a5s (by omega) hn e (by decide),fun hm=>?_⟩
     have:=aqp hT hp hm hs
     rw [e] at this
     exact absurd this (by decide)
   · obtain ⟨h4,h5⟩:=h3 Z hZ
     obtain ⟨_,σ',hC'⟩:=Ch.app hl0 hT hp hC (agx hs) (by rw [e])
     rw [e] at hC'
     rcases ih l' (acc ++ [s]) σ' hT' hC' h4 (by omega) with ⟨q,q0⟩ | ⟨sts,lend,σ2,q1,q2,q3,q4,q5⟩
     · left
       exact ⟨by rw [wq (by omega) hn e,Nat.add_sub_cancel,q],q0⟩
     · right
       refine ⟨s :: sts,lend,σ2, ?_,q2,q3,q4,hT,hs,l',e,fun e=>?_,q5⟩
       · rw [wq (by omega) hn e,Nat.add_sub_cancel,q1,List.append_assoc]
         rfl
       · subst e
         omega
theorem ami (hT:tok n l = true) (hb:c8 n p m = 0):(gi FU n l p m = ([],(0,[]),3) ∧ ¬ m = []) ∨ ∃ sts lend σ,gi FU n l p m = (sts,(n,lend),0) ∧ Ch n.toNat p m l lend σ ∧ tok n lend = true ∧ dp lend p m = none ∧ TrZ n p m lend l sts:=by
 have hck:ckE n l p m = 0:=(if_pos hT).trans hb
 rw [qi hck]
 rcases al9 (fun r hr=>(tq hT r hr).1) (k7 hb).2.2.2.1 l.flatten FU l [] id hT Ch.start (ad5 l) (aek hT) with h | ⟨sts,lend,σ',q1,q⟩
 · exact .inl h
 · exact .inr ⟨sts,lend,σ',by rw [q1,List.nil_append],q⟩
def trL (n:Int) (p m:List Fd):List Rw → List St → List (List Rw)
 | l,[]=>[l]
 | l,s :: r=>l :: trL n p m (dn n l p m s).2.1 r
theorem a8s:∀ {sts:List St} {l:List Rw},(trL n p m l sts).length = sts.length + 1
 | [],_=>rfl
 | s :: r,l=>by unfold trL;rw [List.length_cons,a8s,List.length_cons]
theorem acd:∀ {sts:List St} {l lend:List Rw},TrZ n p m lend l sts → lend ∈ trL n p m l sts
 | [],l,lend,h=>by
  have h:l = lend:=h
  subst h
  simp [trL]
 | s :: r,l,lend,h=>by
  obtain ⟨_,_,l',e,_,h⟩:=h
  unfold trL
  rw [e]
  exact List.mem_cons_of_mem _ (acd h)
theorem anj (hl0:∀ r,r ∈ l0 → r.length = n.toNat) (hp:p.all (inU n) = true):∀ {sts:List St} {l lend:List Rw} {σ:Int → Int},TrZ n p m lend l sts → tok n lend = true → Ch n.toNat p m l0 l σ → ∀ t,t ∈ trL n p m l sts → ∃ σ,Ch n.toNat p m l0 t σ
 | [],l,lend,σ,h,_,hC,t,ht=>by
  rw [List.mem_singleton.1 (show t ∈ [l] from ht)]
  exact ⟨σ,hC⟩
 | s :: r,l,lend,σ,h,hTe,hC,t,ht=>by
  obtain ⟨hT,hs,l',e,_,h⟩:=h
  unfold trL at ht
  rw [e] at ht
  rcases List.mem_cons.1 ht with rfl | ht
  · exact ⟨σ,hC⟩
  · obtain ⟨_,σ',hC'⟩:=Ch.app hl0 hT hp hC (agx hs) (by rw [e])
    rw [e] at hC'
    exact anj hl0 hp h hTe hC' t ht
end
section
variable {n:Int} {ps:List AS} {p m:List Fd}
theorem a60 (h0:0 ≤ n) (h16:n ≤ 16) (hk:ps.length ≤ 64):tok n (ay (bj n ps)) = true:=by
 refine a0u h0 h16 ?_ fun r hr=>?_
 · have:=vk (bj n ps)
   rw [mo] at this
   omega
 · obtain ⟨h1,h2⟩:=a69 hr
   refine ⟨h1,fun z hz=>?_⟩
   obtain ⟨i,hi,rfl⟩:=rz hz
   rcases alx h0 (h2 i (by omega)) with h3 | h3 <;> omega
theorem a10 (hk:ps.length ≤ 64) (hb:c8 n p m = 0) :
 (gi FU n (ay (bj n ps)) p m = ([],(0,[]),3) ∧ ¬ m = []) ∨ ∃ sts lend,gi FU n (ay (bj n ps)) p m = (sts,(n,lend),0) ∧ (ct n ∈ lend ↔ LR n.toNat p m (bj n ps) (ct n)) ∧
  TrZ n p m lend (ay (bj n ps)) sts ∧ tok n lend = true ∧ ((∃ t,t ∈ trL n p m (ay (bj n ps)) sts ∧ ct n ∈ t) ↔ ct n ∈ lend):=by
 obtain ⟨h0,h16,_,hp,_⟩:=k7 hb
 have hT:=a60 h0 h16 hk
 have hl0:∀ r,r ∈ ay (bj n ps) → r.length = n.toNat:=fun r hr=>(tq hT r hr).1
 rcases ami hT hb with h | ⟨sts,lend,σ,h1,h2,h3,h4,h5⟩
 · exact .inl h
 · right
   have hf:ct n ∈ lend ↔ LR n.toNat p m (ay (bj n ps)) (ct n):=by
    rw [h2.mem h3 hl0 h4]
    exact ⟨fun h=>h.1,fun h=>⟨h,h2.first h0⟩⟩
   refine ⟨sts,lend,h1,by rw [hf,azz (l':=bj n ps) fun r=>ff],h5,h3, ?_⟩
   constructor
   · rintro ⟨t,ht,hft⟩
     obtain ⟨σ',hC⟩:=anj hl0 hp h5 h3 Ch.start t ht
     exact hf.2 (hC.rows _ hft)
   · intro h
     exact ⟨lend,acd h5,h⟩
end
end Go.Hx
end
section
namespace Go.Hx
section
variable {n:Int} {l:List Fd}
end
theorem ais {α β:Type} [Inhabited α] {f:α → β} {l:List α} {i:Nat} (h:i < l.length):(l.take (i + 1)).map f = (l.take i).map f ++ [f (l.getD i default)]:=by
 rw [be h,List.map_append]
 rfl
structure Dps where
 n:BitVec 8
 l:List Dp
deriving Inhabited
def Dps.num (d:Dps):Int:=((d.n.toNat % 7:Nat):Int)
def Dps.fds (d:Dps):List Fd:=d.l.map (Dp.fd d.num)
def Dps.c (d:Dps):Nat → PV
 | 0=>.raw (.int .u8 (d.n.toNat:Int))
 | 1=>dpl d.l
 | _=>.any
abbrev Dps.pc (d:Dps):PC:=.agg [d.c 0,d.c 1]
theorem a5o (d:Dps):0 ≤ d.num ∧ d.num ≤ 6:=by unfold Dps.num;omega
theorem ay3 {d:Dps} (h:d.l.length ≤ 6):dl d.num d.fds = 0:=by
 obtain ⟨h0,h1⟩:=a5o d
 unfold dl
 rw [if_neg (by omega),if_neg (by unfold Dps.fds;rw [List.length_map];omega),if_pos]
 rw [List.all_eq_true]
 intro f hf
 unfold Dps.fds at hf
 obtain ⟨x,hx,rfl⟩:=List.mem_map.1 hf
 exact (n7 h0 (by omega)).2 ⟨sc,sc⟩
end Go.Hx
end
section
namespace Go.Hx
open Go.Proofs
set_option maxRecDepth 100000
theorem ala:goodFn Tryz.prog 57:=⟨Tryz.f57,Tryz.func57,by kernel_rfl,by kernel_rfl⟩
theorem atj (n:Int) (l:List Dp) (hl:l.length ≤ 16777216):ai Tryz.prog 57 [pI n,pP (dpl l)] (ao [pP (fdl (l.map (Dp.fd n)))]):=by
 refine ah (nt:=37) ae Tryz.func57 rfl rfl l9 ?_;refine sx7 ?_;refine qy ?_;refine a6 ?_;refine sx7 ?_;refine qy ?_;refine rc rfl rfl rfl rfl rfl rfl kx (l6 n) (CoL.refl _) rfl rfl ?_;refine qy ?_
 refine a6 ?_;refine sx7 ?_;refine qy ?_;refine a6 ?_;refine a7 ?_;refine sx7 ?_;refine qy ?_;refine a6 ?_;refine ab ?_
 refine db 6 900 true 2 40 (lf Fd.c []) (by decide) rfl (CoP.sl rfl (.inr rfl) (fun h=>h) (fun i j hi _=>absurd hi (Nat.not_lt_zero i))) (.inr rfl) rfl ?_
 refine aj (ι:=Nat) ⟨[(1,some _),(5,some _)],[]⟩ ⟨⟨c9,c9,trivial⟩,trivial⟩ (fun i=>⟨[(6,some (.v (.one (.ref 900 ((l.take i).map (Dp.fd n)).length)))),(7,some (vI i))],[(900,some (.arr true 2 40 ((l.take i).map (Dp.fd n)).length (lf Fd.c ((l.take i).map (Dp.fd n)))))]⟩) (fun i=>i ≤ l.length) (fun i=>l.length - i) (0) (Nat.zero_le _) ⟨⟨zy,zy,trivial⟩,⟨u9,trivial⟩⟩ ?_
 rintro i hi
 have hlen:((l.take i).map (Dp.fd n)).length ≤ i:=by rw [List.length_map,List.length_take];omega
 refine a7 ?_;refine sx7 ?_;(iterate 4 refine qy ?_);refine a6 ?_;refine a8 _ rfl (fun r0=>?_) (fun r0=>?_)
 ·
  have h0:=of_decide_eq_true r0
  try simp only [ty] at h0
  refine aa ?_;refine a7 ?_;refine ab ?_;refine ax (E:=bf) ae ar [0,1,2,3,4,5,6,7,8,9,10,11,12,13,14,15,16,17,18,19,20] ?_;(iterate 18 refine qy ?_);refine m9 0 ?_
  refine ra 1 true rfl rfl rfl rfl rfl rfl ?_;refine qy ?_;refine a6 ?_;refine ⟨by kernel_rfl, ?_⟩;refine gy ?_;(iterate 3 refine qy ?_);refine a6 ?_;refine ⟨i + 1, ?_, ?_, ?_⟩
  · show i + 1 ≤ _;omega
  · first | omega | (dsimp only;omega)
  · exact ⟨⟨⟨_,rfl,(d7 (ais (by omega)))⟩,zy,c9,c9,trivial⟩,⟨⟨_,rfl,(zn (ais (by omega)) (CoP.of_eq (congrArg (fun z=>PV.raw (.int .u32 z)) (acv _ _))) (CoP.of_eq (congrArg (fun z=>PV.raw (.int .u32 z)) (acv _ _))))⟩,trivial⟩⟩
 ·
  have h0:=of_decide_eq_false r0
  try simp only [ty] at h0
  obtain rfl:i = l.length:=by omega
  refine ak ?_;refine sx7 ?_;(iterate 2 refine qy ?_);refine a6 ?_;refine bn 4 rfl rfl rfl ?_
  exact hx8 rfl rfl rfl (⟨CoC.one (CoP.of_eq (by rw [List.take_length];rfl)),trivial⟩)
theorem ay0:goodFn Tryz.prog 28:=⟨Tryz.f28,Tryz.func28,by kernel_rfl,by kernel_rfl⟩
theorem cOf (d:Dps) (hl:d.l.length ≤ 16777216):ai Tryz.prog 28 [d.pc] (ao [pI d.num,pP (fdl d.fds),pB (decide (d.l.length ≤ 6))]):=by
 refine ah (nt:=19) ae Tryz.func28 rfl rfl l9 ?_;refine sx7 ?_;refine m9 0 ?_;(iterate 3 refine qy ?_);refine a6 ?_;refine sx7 ?_;(iterate 5 refine qy ?_);refine a6 ?_;refine a7 ?_
 refine ax (E:=bf) ae ar [0,1,2,3,4,5,6,7,8,9,10,11] ?_;(iterate 4 refine qy ?_);refine rc rfl rfl rfl rfl rfl rfl ala (atj d.num d.l hl) (CoL.refl _) rfl rfl ?_;(iterate 7 refine qy ?_)
 refine a6 ?_;refine ⟨by kernel_rfl, ?_⟩
 exact hx8 rfl rfl rfl (⟨cci (show (d.n.toNat:Int) % 7 = d.num by unfold Dps.num;omega),CoC.refl _,ccb (decide_eq_decide.2 (by omega)),trivial⟩)
end Go.Hx
end
section
namespace Go.Hx
def noA (s:AS) (a:Nat):AS:=s &&& ~~~((1:AS) <<< a)
def az1 (n:Int) (l:List Fd) (s:AS) (a:Nat):AS:=if a7t n l (noA s a) = true then noA s a else s
def b1r (n:Int) (l:List Fd) (s:AS) (k:Nat):AS:=(List.range k).foldl (fun s j=>az1 n l s (n.toNat - 1 - j)) s
def rkE (n:Int) (l:List Fd) (s:AS):Int:=if dl n l = 0 then (if a7t n l s = true then 0 else 1) else dl n l
def rkS (n:Int) (l:List Fd) (s:AS):AS:=if rkE n l s = 0 then b1r n l s n.toNat else 0
def b1u (n:Int) (l:List Fd) (s:AS):Bool:=a7t n l s && (List.range n.toNat).all fun a=>!(s.getLsbD a && a7t n l (noA s a))
def b2g (n:Int) (l:List Fd) (i:Nat):List AS:=((List.range i).map (BitVec.ofNat 32)).filter (b1u n l)
def asq (n:Int) (l:List Fd):List AS:=if dl n l = 0 then ord (b2g n l (2 ^ n.toNat)) else []
end Go.Hx
end
section
namespace Go.Hx
def bC:Bool → Nat → PV:=fun b _=>.raw (.bool b)
def apn (n:Int) (l:List Fd) (k:Nat):Bool:=decide (clo l (BitVec.ofNat 32 k) = af n)
def b3v (n:Int) (l:List Fd) (i:Nat):List Bool:=(List.range (2 ^ n.toNat)).map fun k=>decide (k < i) && apn n l k
def b4r (n:Int) (l:List Fd):List Bool:=b3v n l (2 ^ n.toNat)
end Go.Hx
end
section
namespace Go.Hx
section
variable {n:Int} {l:List Fd}
def okA (n:Int) (l:List Fd) (i a:Nat):Bool:=apn n l i && (List.range a).all fun b=>!(i.testBit b && apn n l (i ^^^ 2 ^ b))
section
variable {i a:Nat} (hv:dl n l = 0) (hi:i < 2 ^ n.toNat) (ha:(a:Int) < n) (hx:i ^^^ 2 ^ a < 2 ^ n.toNat)
include hv hi ha hx
end
end
end Go.Hx
end
section
namespace Go.Hx
def ai5 (s:AS):Nat → AS → List AS
 | 0,_=>[]
 | n + 1,x=>if x = 0 then [] else x :: ai5 s n ((x - 1) &&& s)
def aal (s:AS):List AS:=0 :: ai5 s (s.toNat + 1) s
theorem sub_zero (s:AS):sub 0 s:=b5.2 fun i hi h=>by simp at h
def TsI (s:AS) (x:Nat × List AS × AS):Prop:=x.2.1 ++ ai5 s x.1 x.2.2 = aal s ∧ x.2.2.toNat < x.1 ∧ x.2.1.length + x.1 = s.toNat + 2
def acl (l:List Fd) (p s:AS):Bool:=decide (sub p (clo l s))
def b33 (l:List Fd) (p x:AS):Bool:=(List.range 32).all fun a=>!(x.getLsbD a && acl l p (noA x a))
def b57 (l:List Fd) (p x r:AS):Prop:=sub r x ∧ ∀ a,a < 32 → x.getLsbD a = true → r.getLsbD a = true ∨ acl l p (noA x a) = false
def ap4 (l:List Fd) (p x:AS):Bool:=acl l p x && b33 l p x
def akf (l:List Fd) (p:AS):AS:=orL ((aal p).filter (ap4 l p))
theorem a81 {k:Nat}:∀ {ps:List AS} {s:AS},(ps.foldl (· ||| ·) s).getLsbD k = (s.getLsbD k || ps.any fun x=>x.getLsbD k)
 | [],s=>by simp
 | x :: ps,s=>by
  rw [List.foldl_cons,a81,BitVec.getLsbD_or,List.any_cons,Bool.or_assoc]
def b45 (l:List Fd) (p:AS) (i:Nat):AS:=orL (((aal p).take i).filter (ap4 l p))
end Go.Hx
end
section
namespace Go.Hx
def b4x (l:List Fd) (p x:AS) (a:Nat):Bool:=(List.range a).all fun b=>!(x.getLsbD b && acl l p (noA x b))
def b2y (i:Nat):List AS:=(List.range i).map (BitVec.ofNat 32)
def prQ (l:List Fd) (p x:AS):Bool:=decide (sub x p) && ap4 l p x
def b42 (l:List Fd) (p:AS) (i:Nat):AS:=orL ((b2y i).filter (prQ l p))
section
variable {l:List Fd} {p:AS} {i:Nat}
end
def b2z (l:List Fd) (p x:AS):Bool:=!acl l p x && decide (((clo l x &&& p) &&& ~~~x) &&& ~~~akf l p ≠ 0)
def azh (l:List Fd) (p:AS):Bool:=!(aal p).any (b2z l p)
def b30 (n:Int) (l:List Fd) (p:AS):Int:=if dl n l = 0 then (if sub p (af n) then 0 else 1) else dl n l
def b4z (n:Int) (l:List Fd) (p:AS):Bool:=decide (b30 n l p = 0) && azh l p
end Go.Hx
end
section
namespace Go.Hx
section
variable {n:Int} {l:List Fd}
def az7 (n:Int) (l:List Fd) (f:Fd):Bool:=decide (clo l f.lhs ≠ af n) && decide (f.rhs &&& ~~~akf l (af n) ≠ 0)
def b4h (n:Int) (l:List Fd) (i:Nat):List Fd:=((aix n l).take i).filter (az7 n l)
def b4d (n:Int) (l:List Fd):List Fd:=(aix n l).filter (az7 n l)
end
end Go.Hx
end
section
namespace Go.Hx
def b34 (l:List Fd) (pr k:AS):Bool:=(List.range 32).all fun a=>!k.getLsbD a || decide (sub (clo l (noA k a)) pr)
def b3z (n:Int) (l:List Fd):Bool:=(asq n l).all (b34 l (orL (asq n l)))
def b52 (n:Int) (l:List Fd):Bool:=decide (dl n l = 0) && b3z n l
section
variable {l:List Fd} {pr k:AS}
def b5a (l:List Fd) (pr k r:AS):Prop:=sub r k ∧ ∀ a,a < 32 → k.getLsbD a = true → r.getLsbD a = true ∨ sub (clo l (noA k a)) pr
def b50 (l:List Fd) (pr k:AS) (s:Nat):Prop:=∀ j,j < s → sub (BitVec.ofNat 32 j) k → sub (clo l (BitVec.ofNat 32 j)) pr
end
section
variable {n:Int} {l:List Fd}
end
end Go.Hx
end
section
namespace Go.Hx
def mgR (l:List Fd) (s:AS):AS:=(l.filter fun f=>decide (f.lhs = s)).foldl (fun a f=>a ||| f.rhs) 0
def mgF (l:List Fd) (s:AS):Fd:=⟨s,mgR l s⟩
def b2t (l:List Fd):List Fd:=(ord (l.map Fd.lhs)).map (mgF l)
end Go.Hx
end
section
namespace Go.Hx
open Go.Proofs
def b4j (t:AS) (l:List Fd):Prop:=∀ x ∈ l,sub x.rhs t
def aia (n:Int) (l:List Fd):List Fd:=b2t (aix n l)
def pt (f:Fd):AS:=f.lhs ||| f.rhs
section
variable {n:Int} {l:List Fd}
def at0 (n:Int) (l:List Fd) (i:Nat):Bool:=((aia n l).take i).any fun f=>a7t n l (pt f)
def aie (n:Int) (l:List Fd):List AS:=(aia n l).map pt
def b41 (n:Int) (l:List Fd):List AS:=ip (if at0 n l (aia n l).length = true then aie n l else aie n l ++ [rkS n l (af n)])
def b5b (n:Int) (l:List Fd):List AS:=if dl n l = 0 then b41 n l else []
def b5c (n:Int) (l:List Fd):List AS:=if at0 n l (aia n l).length = true then aie n l else aie n l ++ [rkS n l (af n)]
end
end Go.Hx
end
section
namespace Go.Hx
def Eqv (l k:List Fd):Prop:=∀ s,qk l s ↔ qk k s
theorem Eqv.refl (l:List Fd):Eqv l l:=fun s=>Iff.rfl
theorem Eqv.trans {a b c:List Fd} (h:Eqv a b) (k:Eqv b c):Eqv a c:=fun s=>(h s).trans (k s)
theorem Eqv.clo {l k:List Fd} (h:Eqv l k) (s:AS):clo l s = clo k s :=
 fh (aa1 ((h _).2 a15) alh) (aa1 ((h _).1 a15) alh)
end Go.Hx
end
section
namespace Go.Hx
def b4p (l:List Fd) (ps:List AS) (t:AS):Prop:=∀ p ∈ ps,sub (clo l (t &&& p) &&& p) t
def b1i (l:List Fd) (s p:AS):AS:=s ||| (clo l (s &&& p) &&& p)
def b49 (l:List Fd) (ps:List AS) (s:AS):AS:=ps.foldl (b1i l) s
def PrI (l:List Fd) (ps:List AS) (z s:AS):Prop:=sub z s ∧ sub s (aoy l ps z)
def b5f (n:Int) (l:List Fd) (i:Nat):List AS:=((cb (af n)).take i).filter fun s=>!su l s
end Go.Hx
end
section
namespace Go.Hx
def b44 (l:List Fd):Prop:=∀ f ∈ l,∀ i,i < 32 → f.rhs.getLsbD i = true → f.lhs.getLsbD i = false
section
variable {n:Int} {l:List Fd}
end
end Go.Hx
end
section
namespace Go.Hx
open Go.Proofs
theorem qu {ps:List AS} {k:AS} (h:k ∈ ps):sub k (orL ps):=b5.2 fun i hi hb=>by
 unfold orL
 rw [a81,Bool.or_eq_true]
 exact .inr (List.any_eq_true.2 ⟨k,h,hb⟩)
section
variable {n:Int} {l:List Fd}
end
end Go.Hx
end
section
namespace Go.Hx
theorem ar7 {L:List AS} {x:AS}:x ∈ ip L ↔ x ∈ L ∧ ∀ y ∈ L,sub x y → x = y:=by
 unfold ip qz mf
 rw [List.mem_filter,gh,Bool.not_eq_true',List.any_eq_false]
 constructor
 · rintro ⟨h1,h2⟩
   refine ⟨h1,fun y hy hs=>Classical.byContradiction fun hne=>h2 y (gh.2 hy) ?_⟩
   rw [Bool.and_eq_true,decide_eq_true_iff]
   exact ⟨hne,decide_eq_true hs⟩
 · rintro ⟨h1,h2⟩
   refine ⟨h1,fun y hy hc=>?_⟩
   rw [Bool.and_eq_true,decide_eq_true_iff] at hc
   exact hc.1 (h2 y (gh.1 hy) (of_decide_eq_true hc.2))
theorem a59 {L:List AS}:∀ (n:Nat) (x:AS),x ∈ L → 4294967296 - x.toNat ≤ n → ∃ y ∈ ip L,sub x y
 | 0,x,_,h=>by have:=x.isLt;omega
 | n + 1,x,hx,h=>by
  by_cases hm:x ∈ ip L
  · exact ⟨x,hm,gn x⟩
  · have:∃ y ∈ L,sub x y ∧ x ≠ y:=by
     apply Classical.byContradiction
     intro hn
     exact hm (ar7.2 ⟨hx,fun y hy hs=>Classical.byContradiction fun hne=>hn ⟨y,hy,hs,hne⟩⟩)
    obtain ⟨y,hy,hs,hne⟩:=this
    have hlt:=a5w hs hne
    have hyl:=y.isLt
    obtain ⟨z,hz,hyz⟩:=a59 n y hy (by omega)
    exact ⟨z,hz,fm hs hyz⟩
theorem a8j {L:List AS} {x:AS} (h:x ∈ L):∃ y ∈ ip L,sub x y:=a59 4294967296 x h (by omega)
section
variable {n:Int} {l:List Fd}
theorem aev {L:List AS} {t:AS} (h:∀ x ∈ L,sub x t):sub (orL L) t:=b5.2 fun i hi hb=>by
 unfold orL at hb
 rw [a81,Bool.or_eq_true] at hb
 rcases hb with hb | hb
 · simp at hb
 · obtain ⟨x,hx,hxb⟩:=List.any_eq_true.1 hb
   exact b5.1 (h x hx) i hi hxb
end
end Go.Hx
end
section
namespace Go.Hx
def ww (E:Int → Int → Prop) (R:Rw → Prop) (s:AS):Prop:=∃ r,R r ∧ ∀ i:Nat,i < r.length → c4 s (i:Int) = true → E (r.getD i default) (i:Int)
section
variable {N:Nat} {p m:List Fd} {E:Int → Int → Prop} {R:Rw → Prop}
theorem aos {s t:AS} (h:sub s t) {i:Nat} (hi:c4 s (i:Int) = true):c4 t (i:Int) = true:=by
 by_cases hl:i < 32
 · rw [cj hl] at hi ⊢
   exact b5.1 h i hl hi
 · rw [ui (by omega)] at hi
   cases hi
theorem ww.mono {s t:AS} (h:ww E R t) (hs:sub s t):ww E R s:=by
 obtain ⟨r,h1,h2⟩:=h
 exact ⟨r,h1,fun i hi hh=>h2 i hi (aos hs hh)⟩
end
section
variable {n:Int} {p m:List Fd} {ps:List AS}
theorem amn (h0:0 ≤ n) {E:Int → Int → Prop} {R:Rw → Prop} (h:Mdl n.toNat p m E R) (hl:∀ r,r ∈ bj n ps → R r) {q:AS} (hq:q ∈ ps):ww E R q:=by
 obtain ⟨i,hi,e⟩:=rz hq
 refine ⟨stR n i q,hl _ ?_,fun c hc hh=>?_⟩
 · unfold bj
   exact List.mem_map.2 ⟨i,List.mem_range.2 hi,by rw [e]⟩
 · rw [a2k] at hc
   rw [a6i hc]
   unfold stV
   rw [if_pos hh]
   exact h.refl _
theorem aqs {c:Nat} (hc:c < n.toNat):(ct n).getD c default = (c:Int):=by
 unfold ct
 rw [List.getD_eq_getElem?_getD,List.getElem?_map,List.getElem?_range hc]
 rfl
theorem aez {i:Nat} (h16:n ≤ 16) (hi:i < n.toNat):c4 (af n) (i:Int) = true:=by
 rw [cj (by omega)]
 unfold af
 rw [Nat.min_eq_left (by omega),mj _ _ (by omega)]
 exact decide_eq_true hi
theorem al8 (h16:n ≤ 16) {E:Int → Int → Prop} {R:Rw → Prop} (h:Mdl n.toNat p m E R) (hf:ww E R (af n)):R (ct n):=by
 obtain ⟨r,hr,hh⟩:=hf
 have hl:=h.len hr
 refine h.cong hr (by rw [yt,hl]) fun i hi=>?_
 rw [aqs (by omega)]
 exact hh i hi (aez h16 (by omega))
end
end Go.Hx
end
section
namespace Go.Hx
def lvE (n:Int) (ps:List AS):Int:=if n < 0 ∨ 8 < n then 7 else if 64 < ps.length then 3 else if ps.length = 0 ∨ ¬ orL ps = af n then 1 else 0
section
variable {n:Int} {ps:List AS} {p m:List Fd}
theorem aar (h:n < 0 ∨ 8 < n):lvE n ps = 7:=if_pos h
theorem atm (h:¬ (n < 0 ∨ 8 < n)) (h2:64 < ps.length):lvE n ps = 3:=by unfold lvE;rw [if_neg h,if_pos h2]
theorem aai (h:¬ (n < 0 ∨ 8 < n)) (h2:¬ 64 < ps.length) (h3:ps.length = 0 ∨ ¬ orL ps = af n):lvE n ps = 1:=by unfold lvE;rw [if_neg h,if_neg h2,if_pos h3]
theorem air (h:¬ (n < 0 ∨ 8 < n)) (h2:¬ 64 < ps.length) (h3:¬ (ps.length = 0 ∨ ¬ orL ps = af n)):lvE n ps = 0:=by unfold lvE;rw [if_neg h,if_neg h2,if_neg h3]
theorem l8 (h:lvE n ps = 0):0 ≤ n ∧ n ≤ 8 ∧ ps.length ≤ 64 ∧ 0 < ps.length ∧ orL ps = af n:=by
 unfold lvE at h
 split at h
 · exact absurd h (by decide)
 · split at h
   · exact absurd h (by decide)
   · split at h
     · exact absurd h (by decide)
     · rename_i h1 h2 h3
       refine ⟨by omega,by omega,by omega,by omega, ?_⟩
       apply Classical.byContradiction
       intro e
       exact h3 (.inr e)
def lsT (n:Int) (ps:List AS) (p m:List Fd):List St × (Int × List Rw) × Int:=gi FU n (ay (bj n ps)) p m
def lsC (n:Int) (ps:List AS) (p m:List Fd):Int:=if lvE n ps = 0 then (if c8 n p m = 0 then (lsT n ps p m).2.2 else c8 n p m) else lvE n ps
def lsB (n:Int) (ps:List AS) (p m:List Fd):Bool:=decide (lsC n ps p m = 0) && (lsT n ps p m).2.1.2.any fun r=>decide (r = ct n)
theorem b21 (h:¬ lvE n ps = 0):lsC n ps p m = lvE n ps ∧ lsB n ps p m = false:=by
 have e:lsC n ps p m = lvE n ps:=if_neg h
 exact ⟨e,by unfold lsB;rw [e,decide_eq_false h];rfl⟩
theorem b1s (h:lvE n ps = 0) (h2:¬ c8 n p m = 0):lsC n ps p m = c8 n p m ∧ lsB n ps p m = false:=by
 have e:lsC n ps p m = c8 n p m:=(if_pos h).trans (if_neg h2)
 exact ⟨e,by unfold lsB;rw [e,decide_eq_false h2];rfl⟩
theorem a65 (h:lvE n ps = 0) (h2:c8 n p m = 0):lsC n ps p m = (lsT n ps p m).2.2:=(if_pos h).trans (if_pos h2)
theorem uq (h:lsC n ps p m = 0):lvE n ps = 0 ∧ c8 n p m = 0:=by
 unfold lsC at h
 split at h
 · rename_i e
   split at h
   · rename_i e2;exact ⟨e,e2⟩
   · rename_i e2;exact absurd h e2
 · rename_i e;exact absurd h e
theorem b0n (h:lvE n ps = 0) {q:AS} (hq:q ∈ ps):sub q (af n):=by
 rw [← (l8 h).2.2.2.2]
 exact qu hq
theorem adv (h:lvE n ps = 0):fb n ps = (n,ay (bj n ps),0):=by
 obtain ⟨h0,h8,h64,_⟩:=l8 h
 exact a4g (by omega) (by omega) fun j hj=>(aj8 h0 (by omega)).1 (b0n h (eu hj))
theorem ap8 (h0:0 ≤ n) (h6:n ≤ 6) (hd:ps.Nodup) (hs:∀ q,q ∈ ps → sub q (af n)):ps.length ≤ 64:=by
 have hlt:∀ q,q ∈ ps → q.toNat < 64:=fun q hq=>by
  have h1:=a6e (hs q hq)
  have h2:∀ k,k ≤ 6 → (gq k).toNat < 64:=by decide +kernel
  have h3:=h2 (min n.toNat 32) (by omega)
  have h4:(af n).toNat < 64:=h3
  omega
 have hn:(ps.map BitVec.toNat).Nodup:=by
  refine List.Pairwise.map BitVec.toNat (fun a b hab e=>?_) hd
  exact hab (BitVec.eq_of_toNat_eq e)
 have:=hn.length_le_of_subset (l₂:=List.range 64) fun x hx=>by
  obtain ⟨q,hq,rfl⟩:=List.mem_map.1 hx
  exact List.mem_range.2 (hlt q hq)
 simpa using this
theorem b2d (h0:0 ≤ n) (h6:n ≤ 6) (hd:ps.Nodup) (hs:∀ q,q ∈ ps → sub q (af n)) (hne:0 < ps.length) (ho:sub (af n) (orL ps)):lvE n ps = 0:=by
 have h1:=ap8 h0 h6 hd hs
 have h2:orL ps = af n:=fh (aev hs) ho
 exact air (by omega) (by omega) fun e=>by
  rcases e with e | e
  · omega
  · exact e h2
def b5d (n:Int) (p:List Fd) (ps:List AS):Bool:=lsB n ps p [] && !ps.any (su p)
end
end Go.Hx
end

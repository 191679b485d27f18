/- A part of the proof: Ch19 Ch20 Ch21 Cc1 Cc2 Cc3 Ls1 Cs24 Cs26 Cs27 Cs28 Cs30 Cs31 Cs32 Cs33 Cs34 Cs35 Cs36 Cz1m Cs37 Ls2 Ls3 Ls5 Ls6 W2a Bz1 Bz2. -/
import Derived.Test.YtodligmokcbbkaaGreatDoorRx16
import Derived.Test.YtodligmokcbbkaaGreatDoorRx19
import Derived.Test.YtodligmokcbbkaaGreatDoorRx20
import Derived.Test.YtodligmokcbbkaaGreatDoorRx22
set_option linter.all false
section
namespace Go.Hx
open Go.Proofs
def muK (p:List Fd) (k:Nat):Bool:=decide (p.length ≤ k)
def ixK (p:List Fd) (k:Nat):Nat:=if p.length ≤ k then k - p.length else k
def chE (l:List Rw) (p m:List Fd) (s:St):Bool:=if s.1 = true then auc l (m.getD s.2.1 default) s.2.2.1 s.2.2.2 else u7 l (p.getD s.2.1 default) s.2.2.1 s.2.2.2
def atc (l:List Rw) (p m:List Fd) (k a b:Nat):Bool:=decide (a ≠ b) && chE l p m (muK p k,ixK p k,a,b)
def axi (l:List Rw) (p m:List Fd):Option St:=(vj (atc l p m) (p.length + m.length) l.length).map fun x=>(muK p x.1,ixK p x.1,x.2.1,x.2.2)
section
variable {l:List Rw} {p m:List Fd} {k a b:Nat}
end
end Go.Hx
end
section
namespace Go.Hx
theorem a5s {s t:AS} {i:Nat}:dl (s ||| t) (i:Int) = (dl s (i:Int) || dl t (i:Int)):=by
 by_cases h:i < 32
 · rw [eo h,eo h,eo h,BitVec.getLsbD_or]
 · rw [so (by omega),so (by omega),so (by omega)]
   rfl
end Go.Hx
end
section
namespace Go.Hx
def alb (l:List Rw) (p m:List Fd) (mu:Bool) (i a b:Int):Prop:=a < 0 ∨ (l.length:Int) ≤ a ∨ b < 0 ∨ (l.length:Int) ≤ b ∨ a = b ∨ i < 0 ∨ (mu = true ∧ (m.length:Int) ≤ i) ∨ (mu = false ∧ (p.length:Int) ≤ i)
instance (l:List Rw) (p m:List Fd) (mu:Bool) (i a b:Int):Decidable (alb l p m mu i a b):=by unfold alb;infer_instance
def asm (n:Int) (l:List Rw) (p m:List Fd) (mu:Bool) (i a b:Int):Int × List Rw × Int :=
 if ckE n l p m = 0 then if alb l p m mu i a b then (0,[],1) else fu n l p m (mu,i.toNat,a.toNat,b.toNat) else (0,[],ckE n l p m)
section
variable {n:Int} {l:List Rw} {p m:List Fd} {mu:Bool} {i a b:Int}
end
end Go.Hx
end
section
namespace Go.Hx
def AgE (E:Int → Int → Prop) (a b:Rw) (s:AS):Prop:=∀ i:Nat,i < a.length → dl s (i:Int) = true → E (a.getD i default) (b.getD i default)
structure Mdl (N:Nat) (p m:List Fd) (E:Int → Int → Prop) (R:Rw → Prop):Prop where
 refl:∀ x,E x x
 symm:∀ {x y},E x y → E y x
 trans:∀ {x y z},E x y → E y z → E x z
 len:∀ {r},R r → r.length = N
 cong:∀ {r r':Rw},R r → r'.length = r.length → (∀ i,i < r.length → E (r.getD i default) (r'.getD i default)) → R r'
 fd:∀ {x},x ∈ p → ∀ {a b},R a → R b → AgE E a b x.lhs → AgE E a b x.rhs
 mv:∀ {x},x ∈ m → ∀ {a b},R a → R b → AgE E a b x.lhs → R (go a b (x.lhs ||| x.rhs))
def LE (N:Nat) (p m:List Fd) (l:List Rw) (x y:Int):Prop:=∀ E R,Mdl N p m E R → (∀ r,r ∈ l → R r) → E x y
def LR (N:Nat) (p m:List Fd) (l:List Rw) (r:Rw):Prop:=∀ E R,Mdl N p m E R → (∀ r,r ∈ l → R r) → R r
theorem amt (N:Nat) (p m:List Fd):Mdl N p m (fun _ _=>True) (fun r=>r.length = N) :=
 ⟨fun _=>trivial,fun _=>trivial,fun _ _=>trivial,fun h=>h,fun h e _=>e.trans h,fun _ _ _ _ _ _ _ _ _=>trivial,fun _ a b _ hb _=>(oh _ _ _).trans hb⟩
theorem a0j {N:Nat} {p m:List Fd} {l:List Rw} (hl:∀ r,r ∈ l → r.length = N):Mdl N p m (LE N p m l) (LR N p m l) where
 refl x:=fun E R h _=>h.refl x
 symm h:=fun E R k kl=>k.symm (h E R k kl)
 trans h h2:=fun E R k kl=>k.trans (h E R k kl) (h2 E R k kl)
 len h:=h _ _ (amt N p m) hl
 cong h e h2:=fun E R k kl=>k.cong (h E R k kl) e fun i hi=>h2 i hi E R k kl
 fd hx _ _ ha hb hl:=fun i hi hs E R k kl=>k.fd hx (ha E R k kl) (hb E R k kl) (fun j hj hh=>hl j hj hh E R k kl) i hi hs
 mv hx _ _ ha hb hl:=fun E R k kl=>k.mv hx (ha E R k kl) (hb E R k kl) fun j hj hh=>hl j hj hh E R k kl
structure Ch (N:Nat) (p m:List Fd) (l0 l:List Rw) (σ:Int → Int):Prop where
 rows:∀ r,r ∈ l → LR N p m l0 r
 sym:∀ s,LE N p m l0 s (σ s)
 img:∀ r,r ∈ l0 → r.map σ ∈ l
 fix:∀ r,r ∈ l → ∀ z,z ∈ r → σ z = z
 le:∀ s,σ s ≤ s
section
variable {N:Nat} {p m:List Fd} {l0 l l':List Rw} {σ σ':Int → Int} {n:Int}
theorem Ch.start:Ch N p m l0 l0 id:=⟨fun r hr E R _ hl=>hl r hr,fun s E R k _=>k.refl s,fun r hr=>by rw [List.map_id];exact hr,fun _ _ _ _=>rfl,fun s=>Int.le_refl s⟩
theorem Ch.congr (h:Ch N p m l0 l σ) (e:∀ r,r ∈ l' ↔ r ∈ l):Ch N p m l0 l' σ :=
 ⟨fun r hr=>h.rows r ((e r).1 hr),h.sym,fun r hr=>(e _).2 (h.img r hr),fun r hr=>h.fix r ((e r).1 hr),h.le⟩
def lv (hi lo z:Int):Int:=if z = hi then lo else z
theorem i6 {f:Int → Int} {r:Rw} {i:Nat} (h:i < r.length):(r.map f).getD i default = f (r.getD i default):=by
 rw [List.getD_eq_getElem?_getD,List.getElem?_map,List.getElem?_eq_getElem h,List.getD_eq_getElem?_getD,List.getElem?_eq_getElem h]
 rfl
theorem Ch.sub (hl0:∀ r,r ∈ l0 → r.length = N) (h:Ch N p m l0 l σ) {hi lo:Int} (hE:LE N p m l0 hi lo) (hle:lo ≤ hi) (hin:∃ r,r ∈ l ∧ lo ∈ r):Ch N p m l0 (l.map fun r=>r.map (lv hi lo)) (fun s=>lv hi lo (σ s)):=by
 have hm:=a0j (p:=p) (m:=m) hl0
 have hs:∀ z,LE N p m l0 z (lv hi lo z):=fun z=>by
  unfold lv
  split
  · rename_i e;rw [e];exact hE
  · exact hm.refl z
 refine ⟨fun r hr=>?_,fun s=>hm.trans (h.sym s) (hs _),fun r hr=>?_,fun r hr z hz=>?_,fun s=>?_⟩
 · obtain ⟨r0,h0,rfl⟩:=List.mem_map.1 hr
   exact hm.cong (h.rows r0 h0) (by simp) fun i hi=>by rw [i6 hi];exact hs _
 · refine List.mem_map.2 ⟨_,h.img r hr, ?_⟩
   rw [List.map_map]
   rfl
 · obtain ⟨r0,h0,rfl⟩:=List.mem_map.1 hr
   obtain ⟨y,hy,rfl⟩:=List.mem_map.1 hz
   obtain ⟨r1,h1,h2⟩:=hin
   have e1:=h.fix r0 h0 y hy
   have e2:=h.fix r1 h1 lo h2
   by_cases e:y = hi
   · have e3:lv hi lo y = lo:=if_pos e
     show lv hi lo (σ (lv hi lo y)) = lv hi lo y
     rw [e3,e2]
     unfold lv
     split <;> rfl
   · have e3:lv hi lo y = y:=if_neg e
     show lv hi lo (σ (lv hi lo y)) = lv hi lo y
     rw [e3,e1,e3]
 · have h1:=h.le s
   have h2:lv hi lo (σ s) ≤ σ s:=by
    unfold lv
    split <;> omega
   exact Int.le_trans h2 h1
theorem af9 {M:Nat → Nat → Int} {a b j:Nat}:fj l (eqM M a b j) = (fj l M).map fun r=>r.map (lv (hiI (M a j) (M b j)) (loI (M a j) (M b j))):=by
 unfold fj
 rw [List.map_map]
 refine List.map_congr_left fun i _=>?_
 show _ = List.map _ (List.map _ _)
 rw [List.map_map]
 rfl
theorem agi {M:Nat → Nat → Int} {a j:Nat} (ha:a < l.length) (hj:j < (l.getD a default).length):∃ r,r ∈ fj l M ∧ M a j ∈ r :=
 a2q.2 ⟨a,j,ha,hj,rfl⟩
theorem Ch.eqMs (hl0:∀ r,r ∈ l0 → r.length = N) {a b:Nat} (ha:a < l.length) (hb:b < l.length):∀ {js:List Nat} {M:Nat → Nat → Int} {σ:Int → Int},Ch N p m l0 (fj l M) σ → (∀ j,j ∈ js → j < (l.getD a default).length ∧ j < (l.getD b default).length ∧ LE N p m l0 (M a j) (M b j)) →
 ∃ σ',Ch N p m l0 (fj l (eqMs M a b js)) σ'
 | [],M,σ,h,_=>⟨σ,h⟩
 | j :: js,M,σ,h,hj=>by
  obtain ⟨h1,h2,h3⟩:=hj j (by simp)
  have hm:=a0j (p:=p) (m:=m) hl0
  have hlo:loI (M a j) (M b j) ≤ hiI (M a j) (M b j):=by unfold loI hiI;split <;> split <;> omega
  have hE:LE N p m l0 (hiI (M a j) (M b j)) (loI (M a j) (M b j)):=by
   rcases alt (M a j) (M b j) with e | e <;> rcases afe (M a j) (M b j) with f | f <;> rw [e,f]
   · exact hm.refl _
   · exact h3
   · exact hm.symm h3
   · exact hm.refl _
  have hin:∃ r,r ∈ fj l M ∧ loI (M a j) (M b j) ∈ r:=by
   rcases afe (M a j) (M b j) with f | f <;> rw [f]
   · exact agi ha h1
   · exact agi hb h2
  have hq:=h.sub hl0 hE hlo hin
  rw [← af9] at hq
  have hs:∀ z,LE N p m l0 z (if z = hiI (M a j) (M b j) then loI (M a j) (M b j) else z):=fun z=>by
   split
   · rename_i e;rw [e];exact hE
   · exact hm.refl z
  exact Ch.eqMs hl0 ha hb (js:=js) hq fun k hk=>by
   obtain ⟨h4,h5,h6⟩:=hj k (by simp [hk])
   exact ⟨h4,h5,hm.trans (hm.symm (hs (M a k))) (hm.trans h6 (hs (M b k)))⟩
theorem abg:fj l (tq l) = l:=by
 refine a5j (xg _ _) fun i hi=>?_
 rw [xg] at hi
 rw [ah5 hi]
 refine a5j (by simp) fun k hk=>?_
 simp only [List.length_map,List.length_range] at hk
 rw [List.getD_eq_getElem?_getD,List.getElem?_map,List.getElem?_range hk]
 rfl
theorem afh (hl0:∀ r,r ∈ l0 → r.length = N) {a b:Rw} {s:AS} (h:uj a b s = true):AgE (LE N p m l0) a b s:=fun i hi hs=>by
 rw [of_decide_eq_true h i hi hs]
 exact (a0j hl0).refl _
theorem ej {α:Type} [Inhabited α] {l:List α} {i:Nat} (h:i < l.length):l.getD i default ∈ l:=by
 rw [List.getD_eq_getElem?_getD,List.getElem?_eq_getElem h]
 exact List.getElem_mem h
theorem aka {a b:Rw} {s:AS} (hl:a.length = b.length) {z:Int} (hz:z ∈ go a b s):z ∈ a ∨ z ∈ b:=by
 unfold go at hz
 rw [List.mem_map] at hz
 obtain ⟨i,hi,rfl⟩:=hz
 have hi:=List.mem_range.1 hi
 split
 · exact .inl (ej (by omega))
 · exact .inr (ej hi)
def aou (l:List Rw) (p m:List Fd) (s:St):Prop:=s.2.2.1 < l.length ∧ s.2.2.2 < l.length ∧ (s.1 = false → s.2.1 < p.length) ∧ (s.1 = true → s.2.1 < m.length)
theorem Ch.app (hl0:∀ r,r ∈ l0 → r.length = n.toNat) (hT:tok n l = true) (hp:p.all (inU n) = true) (h:Ch n.toNat p m l0 l σ) {s:St} (hs:aou l p m s) (he:(fu n l p m s).2.2 = 0) :
 (fu n l p m s).1 = n ∧ ∃ σ',Ch n.toNat p m l0 (fu n l p m s).2.1 σ':=by
 obtain ⟨mu,i,a,b⟩:=s
 obtain ⟨ha,hb,hf,hv⟩:=hs
 obtain ⟨h0,h1,h2,h3⟩:=vm hT
 have ha:a < l.length:=ha
 have hb:b < l.length:=hb
 have hra:=h3 a ha
 have hrb:=h3 b hb
 cases mu with
 | false =>
  have hi:i < p.length:=hf rfl
  have e0:fu n l p m (false,i,a,b) = fdE n l a b (p.getD i default):=rfl
  rw [e0] at he ⊢
  by_cases hg:uj (l.getD a default) (l.getD b default) (p.getD i default).lhs = true
  · have e1:fdE n l a b (p.getD i default) = (n,db (fj l (Go.Hx.eqMs (tq l) a b (bj (p.getD i default).rhs))),0):=if_pos hg
    rw [e1]
    refine ⟨rfl, ?_⟩
    have hu:inU n (p.getD i default) = true:=List.all_eq_true.1 hp _ (ej hi)
    have hm:=a0j (p:=p) (m:=m) hl0
    have hR:=hm.fd (ej hi) (h.rows _ (ej ha)) (h.rows _ (ej hb)) (afh hl0 hg)
    obtain ⟨σ',hσ⟩:=Ch.eqMs (p:=p) (m:=m) hl0 ha hb (js:=bj (p.getD i default).rhs) (M:=tq l) (σ:=σ) (by rw [abg];exact h) fun j hj=>by
     have h4:=ad4 h0 h1 hu hj
     have h5:=jr.1 hj
     refine ⟨Nat.lt_of_lt_of_eq h4 hra.symm,Nat.lt_of_lt_of_eq h4 hrb.symm,hR j (Nat.lt_of_lt_of_eq h4 hra.symm) (by rw [eo h5.1];exact h5.2)⟩
    exact ⟨σ',hσ.congr fun r=>fe⟩
  · have e1:fdE n l a b (p.getD i default) = (0,[],1):=if_neg hg
    rw [e1] at he
    exact absurd he (by decide)
 | true =>
  have hi:i < m.length:=hv rfl
  have e0:fu n l p m (true,i,a,b) = mvE n l a b (m.getD i default):=rfl
  rw [e0] at he ⊢
  by_cases hg:uj (l.getD a default) (l.getD b default) (m.getD i default).lhs = true
  · have e1:mvE n l a b (m.getD i default) = zh n l (go (l.getD a default) (l.getD b default) ((m.getD i default).lhs ||| (m.getD i default).rhs)):=if_pos hg
    rw [e1] at he ⊢
    by_cases hbig:256 < (db (l ++ [go (l.getD a default) (l.getD b default) ((m.getD i default).lhs ||| (m.getD i default).rhs)])).length
    · have e2:zh n l (go (l.getD a default) (l.getD b default) ((m.getD i default).lhs ||| (m.getD i default).rhs)) = (0,[],3):=if_pos hbig
      rw [e2] at he
      exact absurd he (by decide)
    · have e2:zh n l (go (l.getD a default) (l.getD b default) ((m.getD i default).lhs ||| (m.getD i default).rhs)) = (n,db (l ++ [go (l.getD a default) (l.getD b default) ((m.getD i default).lhs ||| (m.getD i default).rhs)]),0):=if_neg hbig
      rw [e2]
      refine ⟨rfl,σ, ?_⟩
      have hm:=a0j (p:=p) (m:=m) hl0
      have hR:=hm.mv (ej hi) (h.rows _ (ej ha)) (h.rows _ (ej hb)) (afh hl0 hg)
      refine ⟨fun r hr=>?_,h.sym,fun r hr=>fe.2 (List.mem_append_left _ (h.img r hr)),fun r hr z hz=>?_,h.le⟩
      · rcases List.mem_append.1 (fe.1 hr) with h4 | h4
        · exact h.rows r h4
        · rw [List.mem_singleton.1 h4];exact hR
      · rcases List.mem_append.1 (fe.1 hr) with h4 | h4
        · exact h.fix r h4 z hz
        · rw [List.mem_singleton.1 h4] at hz
          rcases aka (by omega) hz with h5 | h5
          · exact h.fix _ (ej ha) z h5
          · exact h.fix _ (ej hb) z h5
  · have e1:mvE n l a b (m.getD i default) = (0,[],1):=if_neg hg
    rw [e1] at he
    exact absurd he (by decide)
theorem a4u {P:Nat → Nat → Nat → Bool} {I L:Nat} (h:vj P I L = none) {i a b:Nat} (hi:i < I) (ha:a < L) (hb:b < L):P i a b = false:=by
 unfold vj at h
 rw [List.findSome?_eq_none_iff] at h
 have h1:=h i (List.mem_range.2 hi)
 rw [List.findSome?_eq_none_iff] at h1
 have h2:=h1 a (List.mem_range.2 ha)
 rw [Option.map_eq_none_iff,List.find?_eq_none] at h2
 exact Bool.eq_false_iff.2 (h2 b (List.mem_range.2 hb))
theorem ahb (h:o3 l p m = none):(∀ i,i < p.length → ∀ a,a < l.length → ∀ b,b < l.length → u7 l (p.getD i default) a b = false) ∧ ∀ i,i < m.length → ∀ a,a < l.length → ∀ b,b < l.length → qp l (m.getD i default) a b = false:=by
 unfold o3 at h
 split at h
 · cases h
 · rename_i e
   rw [Option.map_eq_none_iff] at h
   exact ⟨fun i hi a ha b hb=>a4u (P:=fun i a b=>u7 l (p.getD i default) a b) e hi ha hb,fun i hi a ha b hb=>a4u (P:=fun i a b=>qp l (m.getD i default) a b) h hi ha hb⟩
theorem sm {α:Type} [Inhabited α] {l:List α} {x:α} (h:x ∈ l):∃ i,i < l.length ∧ l.getD i default = x:=by
 obtain ⟨i,hi,rfl⟩:=List.getElem_of_mem h
 exact ⟨i,hi,by rw [List.getD_eq_getElem?_getD,List.getElem?_eq_getElem hi];rfl⟩
theorem ajw {f:Int → Int} {a b:Rw} {s:AS} (hl:a.length = b.length):go (a.map f) (b.map f) s = (go a b s).map f:=by
 unfold go
 rw [List.map_map,List.length_map]
 refine List.map_congr_left fun i hi=>?_
 have hi:=List.mem_range.1 hi
 show _ = f (if dl s (i:Int) = true then a.getD i default else b.getD i default)
 split
 · rw [i6 (by omega)]
 · rw [i6 hi]
theorem Ch.mdl (hT:tok n l = true) (hn:o3 l p m = none) (σ:Int → Int):Mdl n.toNat p m (fun x y=>σ x = σ y) (fun r=>r.length = n.toNat ∧ r.map σ ∈ l):=by
 obtain ⟨hF,hM⟩:=ahb hn
 refine ⟨fun _=>rfl,fun h=>h.symm,fun h k=>h.trans k,fun h=>h.1,fun {r r'} h e h2=>⟨e.trans h.1, ?_⟩,fun {x} hx {a b} ha hb hl i hi hs=>?_,fun {x} hx {a b} ha hb hl=>⟨(oh _ _ _).trans hb.1, ?_⟩⟩
 · have:r'.map σ = r.map σ:=by
    refine a5j (by simp [e]) fun i hi=>?_
    rw [List.length_map] at hi
    rw [i6 hi,i6 (by omega)]
    exact (h2 i (by omega)).symm
   rw [this];exact h.2
 · obtain ⟨k,hk,rfl⟩:=sm hx
   obtain ⟨ia,hia,ea⟩:=sm ha.2
   obtain ⟨ib,hib,eb⟩:=sm hb.2
   have h1:=hF k hk ia hia ib hib
   unfold u7 at h1
   rw [ea,eb,ab3 (fun j hj hs=>by rw [List.length_map] at hj;rw [i6 hj,i6 (by rw [hb.1,← ha.1];exact hj)];exact hl j hj hs),Bool.true_and,Bool.not_eq_false'] at h1
   have h2:=of_decide_eq_true h1 i (by rw [List.length_map];exact hi) hs
   rw [i6 hi,i6 (by rw [hb.1,← ha.1];exact hi)] at h2
   exact h2
 · obtain ⟨k,hk,rfl⟩:=sm hx
   obtain ⟨ia,hia,ea⟩:=sm ha.2
   obtain ⟨ib,hib,eb⟩:=sm hb.2
   have h1:=hM k hk ia hia ib hib
   unfold qp at h1
   rw [ea,eb,ab3 (fun j hj hs=>by rw [List.length_map] at hj;rw [i6 hj,i6 (by rw [hb.1,← ha.1];exact hj)];exact hl j hj hs),Bool.true_and,Bool.not_eq_false'] at h1
   obtain ⟨r,hr,e⟩:=List.any_eq_true.1 h1
   rw [← ajw (by rw [ha.1,hb.1]),← of_decide_eq_true e]
   exact hr
theorem Ch.has (h:Ch n.toNat p m l0 l σ) (hT:tok n l = true) (hl0:∀ r,r ∈ l0 → r.length = n.toNat) (hn:o3 l p m = none):(∀ x y,LE n.toNat p m l0 x y → σ x = σ y) ∧ ∀ r,LR n.toNat p m l0 r → r.map σ ∈ l:=by
 have hm:=Ch.mdl (p:=p) (m:=m) hT hn σ
 have hl:∀ r,r ∈ l0 → r.length = n.toNat ∧ r.map σ ∈ l:=fun r hr=>⟨hl0 r hr,h.img r hr⟩
 exact ⟨fun x y e=>e _ _ hm hl,fun r e=>(e _ _ hm hl).2⟩
theorem ace {f:Int → Int}:∀ {r:Rw},(∀ z,z ∈ r → f z = z) → r.map f = r
 | [],_=>rfl
 | z :: r,h=>by rw [List.map_cons,h z (by simp),ace fun y hy=>h y (by simp [hy])]
end
end Go.Hx
end
section
namespace Go.Hx
def auk:List (List Int) → List Rw
 | []=>[[]]
 | c :: cs=>c.flatMap fun z=>(auk cs).map fun r=>z :: r
section
variable {N:Nat} {p m:List Fd} {l0 l:List Rw}
theorem adh {a b:Rw} {s:AS} {i:Nat} (h:i < b.length):(go a b s).getD i default = if dl s (i:Int) = true then a.getD i default else b.getD i default:=by
 unfold go
 rw [List.getD_eq_getElem?_getD,List.getElem?_map,List.getElem?_range h]
 rfl
theorem al2 (C:Nat → List Int) (hd:∀ i j z,z ∈ C i → z ∈ C j → i = j):Mdl N p m (fun x y=>x = y ∨ ∃ i,x ∈ C i ∧ y ∈ C i) (fun r=>r.length = N ∧ ∀ i,i < N → r.getD i default ∈ C i) where
 refl _:=.inl rfl
 symm h:=by
  rcases h with h | ⟨i,h,k⟩
  · exact .inl h.symm
  · exact .inr ⟨i,k,h⟩
 trans h h2:=by
  rcases h with h | ⟨i,h,k⟩
  · rw [h];exact h2
  · rcases h2 with h2 | ⟨j,h2,k2⟩
    · rw [← h2];exact .inr ⟨i,h,k⟩
    · have:=hd i j _ k h2
      subst this
      exact .inr ⟨i,h,k2⟩
 len h:=h.1
 cong h e h2:=⟨e.trans h.1,fun i hi=>by
  have h3:=h.2 i hi
  rcases h2 i (by rw [h.1];exact hi) with h4 | ⟨j,h4,h5⟩
  · rw [← h4];exact h3
  · have:=hd i j _ h3 h4
    subst this
    exact h5⟩
 fd _ a b ha hb _:=fun i hi _=>.inr ⟨i,ha.2 i (by rw [← ha.1];exact hi),hb.2 i (by rw [← ha.1];exact hi)⟩
 mv _ a b ha hb _:=⟨(oh _ _ _).trans hb.1,fun i hi=>by
  rw [adh (by rw [hb.1];exact hi)]
  split
  · exact ha.2 i hi
  · exact hb.2 i hi⟩
theorem afi:Mdl N p m (fun x y=>0 ≤ x ↔ 0 ≤ y) (fun r=>r.length = N ∧ ∀ i,i < r.length → 0 ≤ r.getD i default) where
 refl _:=Iff.rfl
 symm h:=h.symm
 trans h h2:=h.trans h2
 len h:=h.1
 cong h e h2:=⟨e.trans h.1,fun i hi=>(h2 i (by omega)).1 (h.2 i (by omega))⟩
 fd _ a b ha hb _:=fun i hi _=>⟨fun _=>hb.2 i (by rw [hb.1,← ha.1];exact hi),fun _=>ha.2 i hi⟩
 mv _ a b ha hb _:=⟨(oh _ _ _).trans hb.1,fun i hi=>by
  rw [oh] at hi
  rw [adh hi]
  split
  · exact ha.2 i (by rw [ha.1,← hb.1];exact hi)
  · exact hb.2 i hi⟩
def af7 (N:Nat) (p m:List Fd) (l0:List Rw):Prop:=∀ l,lw l → (∀ r,r ∈ l → LR N p m l0 r) → l.length ≤ 256
end
section
variable {p m:List Fd} {l0 l:List Rw} {n:Int} {σ:Int → Int}
theorem apb (h0:tok n l0 = true) (hS:af7 n.toNat p m l0) (ho:lw l) (h:∀ r,r ∈ l → LR n.toNat p m l0 r):tok n l = true:=by
 obtain ⟨h1,h2,_⟩:=vm h0
 refine ahi h1 h2 (hS l ho h) (fun r hr=>?_) ho
 have h3:=h r hr _ _ afi fun r0 hr0=>⟨(rt h0 r0 hr0).1,fun i hi=>(rt h0 r0 hr0).2 _ (ej hi)⟩
 refine ⟨h3.1,fun z hz=>?_⟩
 obtain ⟨i,hi,rfl⟩:=sm hz
 exact h3.2 i hi
theorem aj1 {s:St} (h:(fu n l p m s).2.2 = 0):lw (fu n l p m s).2.1:=by
 unfold fu at *
 split at h
 · rename_i e
   rw [if_pos e]
   unfold mvE zh at *
   split at h
   · rename_i e2
     rw [if_pos e2]
     split at h
     · exact absurd h (by decide)
     · rename_i e3
       rw [if_neg e3]
       exact ny _
   · exact absurd h (by decide)
 · rename_i e
   rw [if_neg e]
   unfold fdE at *
   split at h
   · rename_i e2
     rw [if_pos e2]
     exact ny _
   · exact absurd h (by decide)
theorem Ch.step (h0:tok n l0 = true) (hS:af7 n.toNat p m l0) (hp:p.all (inU n) = true) (hT:tok n l = true) (h:Ch n.toNat p m l0 l σ) {s:St} (hs:aou l p m s) (he:(fu n l p m s).2.2 = 0) :
 ∃ l' σ',fu n l p m s = (n,l',0) ∧ tok n l' = true ∧ Ch n.toNat p m l0 l' σ':=by
 obtain ⟨h1,σ',h2⟩:=Ch.app (fun r hr=>(rt h0 r hr).1) hT hp h hs he
 have h3:=apb h0 hS (aj1 he) h2.rows
 refine ⟨_,σ', ?_,h3,h2⟩
 conv=>lhs;rw [← Prod.eta (fu n l p m s),← Prod.eta (fu n l p m s).2,h1,he]
theorem Ch.code (h0:tok n l0 = true) (hS:af7 n.toNat p m l0) (hp:p.all (inU n) = true) (hT:tok n l = true) (h:Ch n.toNat p m l0 l σ) {s:St} (hs:adu l p m s):(fu n l p m s).2.2 = 0:=by
 rcases afp hT hp hs with e | ⟨l',e,_⟩
 · obtain ⟨mu,i,a,b⟩:=s
   obtain ⟨ha,hb,hs | hs⟩:=hs
   · obtain ⟨h1,h2,h3⟩:=hs
     cases h1
     have h4:fu n l p m (false,i,a,b) = fdE n l a b (p.getD i default):=rfl
     have hg:=(am2 hT (List.all_eq_true.1 hp _ (ej h2)) ha hb h3).1
     have hg:fdE n l a b (p.getD i default) = (n,fdL l a b (p.getD i default),0):=hg
     rw [h4,hg] at e ⊢
   · obtain ⟨h1,h2,h3⟩:=hs
     cases h1
     have h4:fu n l p m (true,i,a,b) = mvE n l a b (m.getD i default):=rfl
     have h5:qp l (m.getD i default) a b = true:=h3
     unfold qp at h5
     rw [Bool.and_eq_true] at h5
     have h6:mvE n l a b (m.getD i default) = zh n l (go (l.getD a default) (l.getD b default) ((m.getD i default).lhs ||| (m.getD i default).rhs)):=if_pos h5.1
     have hl0:∀ r,r ∈ l0 → r.length = n.toNat:=fun r hr=>(rt h0 r hr).1
     have h7:=hS (db (l ++ [go (l.getD a default) (l.getD b default) ((m.getD i default).lhs ||| (m.getD i default).rhs)])) (ny _) fun r hr=>by
      rcases List.mem_append.1 (fe.1 hr) with h8 | h8
      · exact h.rows r h8
      · rw [List.mem_singleton.1 h8]
        exact (a0j hl0).mv (ej h2) (h.rows _ (ej ha)) (h.rows _ (ej hb)) (afh hl0 h5.1)
     rw [h4,h6]
     unfold zh
     rw [if_neg (by omega)]
 · rw [e]
def TrZ (n:Int) (p m:List Fd) (lend:List Rw):List Rw → List St → Prop
 | l,[]=>l = lend
 | l,s :: r=>tok n l = true ∧ adu l p m s ∧ ∃ l',fu n l p m s = (n,l',0) ∧ ¬ l' = l ∧ TrZ n p m lend l' r
end
def stC (n:Int) (ps:List AS) (c:Nat):List Int:=if c < n.toNat then (List.range ps.length).map fun i=>stV n i (ps.getD i default) c else []
section
variable {n:Int} {ps:List AS} {p m:List Fd}
theorem ao2 (h0:0 ≤ n) {i c:Nat} {q:AS} (hc:c < n.toNat):stV n i q c % n = (c:Int):=by
 unfold stV
 split
 · exact Int.emod_eq_of_lt (by omega) (by omega)
 · have e:n + (i:Int) * n + (c:Int) = (c:Int) + n * (1 + (i:Int)):=by rw [Int.mul_add,Int.mul_one,Int.mul_comm (i:Int) n];omega
   rw [e,Int.add_mul_emod_self_left]
   exact Int.emod_eq_of_lt (by omega) (by omega)
theorem a5e (h0:0 ≤ n) {c:Nat} {z:Int} (h:z ∈ stC n ps c):c < n.toNat ∧ z % n = (c:Int):=by
 unfold stC at h
 split at h
 · rename_i hc
   obtain ⟨i,_,rfl⟩:=List.mem_map.1 h
   exact ⟨hc,ao2 h0 hc⟩
 · simp at h
theorem anv (h0:0 ≤ n):∀ i j z,z ∈ stC n ps i → z ∈ stC n ps j → i = j:=fun i j z h k=>by
 have h1:=(a5e h0 h).2
 have h2:=(a5e h0 k).2
 omega
theorem aff {r:Rw} (hr:r ∈ jl n ps):r.length = n.toNat ∧ ∀ i,i < n.toNat → r.getD i default ∈ stC n ps i:=by
 unfold jl at hr
 obtain ⟨k,hk,rfl⟩:=List.mem_map.1 hr
 refine ⟨aol _ _ _,fun i hi=>?_⟩
 rw [aqq hi]
 unfold stC
 rw [if_pos hi]
 exact List.mem_map.2 ⟨k,hk,rfl⟩
end
end Go.Hx
end
section
namespace Go.Hx
section
variable {n:Int} {ps:List AS} {p m:List Fd} {l l0:List Rw} {σ:Int → Int}
theorem arf (h0:0 ≤ n) {c:Nat} {z:Int} (h:z ∈ stC n ps c):z = (c:Int) ∨ n ≤ z:=by
 unfold stC at h
 split at h
 · obtain ⟨i,_,rfl⟩:=List.mem_map.1 h
   unfold stV
   split
   · exact .inl rfl
   · right
     have:=Int.mul_nonneg (show (0:Int) ≤ (i:Int) by omega) h0
     omega
 · simp at h
theorem Ch.first (h0:0 ≤ n) (h:Ch n.toNat p m (db (jl n ps)) l σ):(vt n).map σ = vt n:=by
 refine ace fun z hz=>?_
 unfold vt at hz
 obtain ⟨c,hc,rfl⟩:=List.mem_map.1 hz
 have hc:=List.mem_range.1 hc
 have h1:=h.sym (c:Int) _ _ (al2 (stC n ps) (anv h0)) fun r hr=>aff (fe.1 hr)
 rcases h1 with h1 | ⟨i,h1,h2⟩
 · exact h1.symm
 · have h3:=(a5e h0 h1).2
   have h4:=Int.emod_eq_of_lt (a:=(c:Int)) (b:=n) (by omega) (by omega)
   have h5:i = c:=by omega
   subst h5
   have h6:=h.le (i:Int)
   rcases arf h0 h2 with h7 | h7
   · exact h7
   · omega
def swI (n z:Int):Int:=if n ≤ z ∧ z < 2 * n then z + n else if 2 * n ≤ z ∧ z < 3 * n then z - n else z
abbrev ay4 (n:Int) (x:Fd):Fd:=⟨x.lhs,am n &&& ~~~(x.lhs ||| x.rhs)⟩
end
end Go.Hx
end
section
namespace Go.Hx
section
variable {n:Int} {p m:List Fd} {l0 l:List Rw} {σ:Int → Int}
def trL (n:Int) (p m:List Fd):List Rw → List St → List (List Rw)
 | l,[]=>[l]
 | l,s :: r=>l :: trL n p m (fu n l p m s).2.1 r
end
section
variable {n:Int} {ps:List AS} {p m:List Fd}
end
end Go.Hx
end
section
namespace Go.Hx
section
variable {n:Int} {l:List Fd}
end
structure Dps where
 n:BitVec 8
 l:List Dp
deriving Inhabited
def Dps.num (d:Dps):Int:=((d.n.toNat % 7:Nat):Int)
def Dps.fds (d:Dps):List Fd:=d.l.map (Dp.fd d.num)
def Dps.c (d:Dps):Nat → PV
 | 0=>.raw (.int .u8 (d.n.toNat:Int))
 | 1=>dpl d.l
 | _=>.any
abbrev Dps.pc (d:Dps):PC:=.agg [d.c 0,d.c 1]
end Go.Hx
end
section
namespace Go.Hx
def noA (s:AS) (a:Nat):AS:=s &&& ~~~((1:AS) <<< a)
def api (n:Int) (l:List Fd) (s:AS) (a:Nat):AS:=if a5g n l (noA s a) = true then noA s a else s
def atd (n:Int) (l:List Fd) (s:AS) (k:Nat):AS:=(List.range k).foldl (fun s j=>api n l s (n.toNat - 1 - j)) s
def rkE (n:Int) (l:List Fd) (s:AS):Int:=if dy n l = 0 then (if a5g n l s = true then 0 else 1) else dy n l
def rkS (n:Int) (l:List Fd) (s:AS):AS:=if rkE n l s = 0 then atd n l s n.toNat else 0
def au6 (n:Int) (l:List Fd) (s:AS):Bool:=a5g n l s && (List.range n.toNat).all fun a=>!(s.getLsbD a && a5g n l (noA s a))
def ati (n:Int) (l:List Fd) (i:Nat):List AS:=((List.range i).map (BitVec.ofNat 32)).filter (au6 n l)
def alk (n:Int) (l:List Fd):List AS:=if dy n l = 0 then ord (ati n l (2 ^ n.toNat)) else []
end Go.Hx
end
section
namespace Go.Hx
def bC:Bool → Nat → PV:=fun b _=>.raw (.bool b)
def aiu (n:Int) (l:List Fd) (k:Nat):Bool:=decide (clo l (BitVec.ofNat 32 k) = am n)
def av7 (n:Int) (l:List Fd) (i:Nat):List Bool:=(List.range (2 ^ n.toNat)).map fun k=>decide (k < i) && aiu n l k
def axt (n:Int) (l:List Fd):List Bool:=av7 n l (2 ^ n.toNat)
end Go.Hx
end
section
namespace Go.Hx
section
variable {n:Int} {l:List Fd}
def okA (n:Int) (l:List Fd) (i a:Nat):Bool:=aiu n l i && (List.range a).all fun b=>!(i.testBit b && aiu n l (i ^^^ 2 ^ b))
section
variable {i a:Nat} (hv:dy n l = 0) (hi:i < 2 ^ n.toNat) (ha:(a:Int) < n) (hx:i ^^^ 2 ^ a < 2 ^ n.toNat)
include hv hi ha hx
end
end
end Go.Hx
end
section
namespace Go.Hx
def ae6 (s:AS):Nat → AS → List AS
 | 0,_=>[]
 | n + 1,x=>if x = 0 then [] else x :: ae6 s n ((x - 1) &&& s)
def a7w (s:AS):List AS:=0 :: ae6 s (s.toNat + 1) s
theorem sub_zero (s:AS):sub 0 s:=bf.2 fun i hi h=>by simp at h
def TsI (s:AS) (x:Nat × List AS × AS):Prop:=x.2.1 ++ ae6 s x.1 x.2.2 = a7w s ∧ x.2.2.toNat < x.1 ∧ x.2.1.length + x.1 = s.toNat + 2
def a8p (l:List Fd) (p s:AS):Bool:=decide (sub p (clo l s))
def awa (l:List Fd) (p x:AS):Bool:=(List.range 32).all fun a=>!(x.getLsbD a && a8p l p (noA x a))
def az1 (l:List Fd) (p x r:AS):Prop:=sub r x ∧ ∀ a,a < 32 → x.getLsbD a = true → r.getLsbD a = true ∨ a8p l p (noA x a) = false
def ajd (l:List Fd) (p x:AS):Bool:=a8p l p x && awa l p x
def ahk (l:List Fd) (p:AS):AS:=orL ((a7w p).filter (ajd l p))
def awn (l:List Fd) (p:AS) (i:Nat):AS:=orL (((a7w p).take i).filter (ajd l p))
end Go.Hx
end
section
namespace Go.Hx
def ayc (l:List Fd) (p x:AS) (a:Nat):Bool:=(List.range a).all fun b=>!(x.getLsbD b && a8p l p (noA x b))
def ave (i:Nat):List AS:=(List.range i).map (BitVec.ofNat 32)
def prQ (l:List Fd) (p x:AS):Bool:=decide (sub x p) && ajd l p x
def awr (l:List Fd) (p:AS) (i:Nat):AS:=orL ((ave i).filter (prQ l p))
section
variable {l:List Fd} {p:AS} {i:Nat}
end
def awg (l:List Fd) (p x:AS):Bool:=!a8p l p x && decide (((clo l x &&& p) &&& ~~~x) &&& ~~~ahk l p ≠ 0)
def as8 (l:List Fd) (p:AS):Bool:=!(a7w p).any (awg l p)
def awi (n:Int) (l:List Fd) (p:AS):Int:=if dy n l = 0 then (if sub p (am n) then 0 else 1) else dy n l
def axy (n:Int) (l:List Fd) (p:AS):Bool:=decide (awi n l p = 0) && as8 l p
end Go.Hx
end
section
namespace Go.Hx
section
variable {n:Int} {l:List Fd}
def apw (n:Int) (l:List Fd) (f:Fd):Bool:=decide (clo l f.lhs ≠ am n) && decide (f.rhs &&& ~~~ahk l (am n) ≠ 0)
def axl (n:Int) (l:List Fd) (i:Nat):List Fd:=((aeq n l).take i).filter (apw n l)
def ax3 (n:Int) (l:List Fd):List Fd:=(aeq n l).filter (apw n l)
end
end Go.Hx
end
section
namespace Go.Hx
def avn (l:List Fd) (pr k:AS):Bool:=(List.range 32).all fun a=>!k.getLsbD a || decide (sub (clo l (noA k a)) pr)
def av2 (n:Int) (l:List Fd):Bool:=(alk n l).all (avn l (orL (alk n l)))
def ayq (n:Int) (l:List Fd):Bool:=decide (dy n l = 0) && av2 n l
section
variable {l:List Fd} {pr k:AS}
def ay6 (l:List Fd) (pr k r:AS):Prop:=sub r k ∧ ∀ a,a < 32 → k.getLsbD a = true → r.getLsbD a = true ∨ sub (clo l (noA k a)) pr
def ayt (l:List Fd) (pr k:AS) (s:Nat):Prop:=∀ j,j < s → sub (BitVec.ofNat 32 j) k → sub (clo l (BitVec.ofNat 32 j)) pr
end
section
variable {n:Int} {l:List Fd}
end
end Go.Hx
end
section
namespace Go.Hx
def mgR (l:List Fd) (s:AS):AS:=(l.filter fun f=>decide (f.lhs = s)).foldl (fun a f=>a ||| f.rhs) 0
def mgF (l:List Fd) (s:AS):Fd:=⟨s,mgR l s⟩
def aw7 (l:List Fd):List Fd:=(ord (l.map Fd.lhs)).map (mgF l)
end Go.Hx
end
section
namespace Go.Hx
open Go.Proofs
def awy (t:AS) (l:List Fd):Prop:=∀ x ∈ l,sub x.rhs t
def af8 (n:Int) (l:List Fd):List Fd:=aw7 (aeq n l)
def pt (f:Fd):AS:=f.lhs ||| f.rhs
section
variable {n:Int} {l:List Fd}
def amd (n:Int) (l:List Fd) (i:Nat):Bool:=((af8 n l).take i).any fun f=>a5g n l (pt f)
def af0 (n:Int) (l:List Fd):List AS:=(af8 n l).map pt
def avc (n:Int) (l:List Fd):List AS:=a34 (if amd n l (af8 n l).length = true then af0 n l else af0 n l ++ [rkS n l (am n)])
def az2 (n:Int) (l:List Fd):List AS:=if dy n l = 0 then avc n l else []
def axv (n:Int) (l:List Fd):List AS:=if amd n l (af8 n l).length = true then af0 n l else af0 n l ++ [rkS n l (am n)]
end
end Go.Hx
end
section
namespace Go.Hx
def Eqv (l k:List Fd):Prop:=∀ s,od l s ↔ od k s
theorem Eqv.refl (l:List Fd):Eqv l l:=fun s=>Iff.rfl
theorem Eqv.trans {a b c:List Fd} (h:Eqv a b) (k:Eqv b c):Eqv a c:=fun s=>(h s).trans (k s)
theorem Eqv.clo {l k:List Fd} (h:Eqv l k) (s:AS):clo l s = clo k s :=
 l7 (a6m ((h _).2 yw) agh) (a6m ((h _).1 yw) agh)
end Go.Hx
end
section
namespace Go.Hx
def ax6 (l:List Fd) (ps:List AS) (t:AS):Prop:=∀ p ∈ ps,sub (clo l (t &&& p) &&& p) t
def aua (l:List Fd) (s p:AS):AS:=s ||| (clo l (s &&& p) &&& p)
def awt (l:List Fd) (ps:List AS) (s:AS):AS:=ps.foldl (aua l) s
def PrI (l:List Fd) (ps:List AS) (z s:AS):Prop:=sub z s ∧ sub s (aj0 l ps z)
def ayw (n:Int) (l:List Fd) (i:Nat):List AS:=((dn (am n)).take i).filter fun s=>!qr l s
end Go.Hx
end
section
namespace Go.Hx
def aws (l:List Fd):Prop:=∀ f ∈ l,∀ i,i < 32 → f.rhs.getLsbD i = true → f.lhs.getLsbD i = false
section
variable {n:Int} {l:List Fd}
end
end Go.Hx
end
section
namespace Go.Hx
def ajl (E:Int → Int → Prop) (R:Rw → Prop) (s:AS):Prop:=∃ r,R r ∧ ∀ i:Nat,i < r.length → dl s (i:Int) = true → E (r.getD i default) (i:Int)
section
variable {N:Nat} {p m:List Fd} {E:Int → Int → Prop} {R:Rw → Prop}
theorem alh {s t:AS} (h:sub s t) {i:Nat} (hi:dl s (i:Int) = true):dl t (i:Int) = true:=by
 by_cases hl:i < 32
 · rw [eo hl] at hi ⊢
   exact bf.1 h i hl hi
 · rw [so (by omega)] at hi
   cases hi
theorem ajl.mono {s t:AS} (h:ajl E R t) (hs:sub s t):ajl E R s:=by
 obtain ⟨r,h1,h2⟩:=h
 exact ⟨r,h1,fun i hi hh=>h2 i hi (alh hs hh)⟩
end
section
variable {n:Int} {p m:List Fd} {ps:List AS}
end
end Go.Hx
end
section
namespace Go.Hx
def lvE (n:Int) (ps:List AS):Int:=if n < 0 ∨ 8 < n then 7 else if 64 < ps.length then 3 else if ps.length = 0 ∨ ¬ orL ps = am n then 1 else 0
section
variable {n:Int} {ps:List AS} {p m:List Fd}
def lsT (n:Int) (ps:List AS) (p m:List Fd):List St × (Int × List Rw) × Int:=a4o FU n (db (jl n ps)) p m
def lsC (n:Int) (ps:List AS) (p m:List Fd):Int:=if lvE n ps = 0 then (if fp n p m = 0 then (lsT n ps p m).2.2 else fp n p m) else lvE n ps
def lsB (n:Int) (ps:List AS) (p m:List Fd):Bool:=decide (lsC n ps p m = 0) && (lsT n ps p m).2.1.2.any fun r=>decide (r = vt n)
def ayr (n:Int) (p:List Fd) (ps:List AS):Bool:=lsB n ps p [] && !ps.any (qr p)
end
end Go.Hx
end
section
namespace Go.Hx
abbrev tbC (a:Int × List Rw):Nat → PV:=fun j=>[.raw (.int .i64 a.1),rl a.2].getD j .any
def lcR (n:Int) (ps:List AS) (p m:List Fd):(Int × List Rw) × List St × (Int × List Rw) × Int :=
 if lvE n ps = 0 then (if fp n p m = 0 then ((n,db (jl n ps)),(lsT n ps p m).1,(lsT n ps p m).2.1,(lsT n ps p m).2.2) else ((0,[]),[],(0,[]),fp n p m)) else ((0,[]),[],(0,[]),lvE n ps)
section
variable {n:Int} {ps:List AS} {p m:List Fd} {l lend:List Rw}
def atn (n:Int) (p m:List Fd) (l:List Rw) (sts:List St):List (Int × List Rw):=(trL n p m l sts).map fun t=>(n,t)
def rcR (n:Int) (ps:List AS) (p m:List Fd):List St × List (Int × List Rw) × Int :=
 if lsC n ps p m = 0 then ((lsT n ps p m).1,atn n p m (db (jl n ps)) (lsT n ps p m).1,0) else ([],[],lsC n ps p m)
def aep (n:Int) (t:List Rw):Bool:=t.any fun r=>decide (r = vt n)
def prX (n:Int) (ps:List AS) (p m:List Fd):Int:=idx (fun a:Int × List Rw=>aep n a.2) (rcR n ps p m).2.1
def prC (n:Int) (ps:List AS) (p m:List Fd):Int:=if (rcR n ps p m).2.2 = 0 then (if prX n ps p m < 0 then 11 else 0) else (rcR n ps p m).2.2
def prS (n:Int) (ps:List AS) (p m:List Fd):List St:=if (rcR n ps p m).2.2 = 0 then (if prX n ps p m < 0 then [] else (rcR n ps p m).1.take (prX n ps p m).toNat) else []
end
end Go.Hx
end
section
namespace Go.Hx
inductive Lf (l:List Fd):AS → AS → Prop
 | leaf {s:AS}:qr l s = false → Lf l s s
 | left {s q:AS}:qr l s = true → Lf l (spA l s) q → Lf l s q
 | right {s q:AS}:qr l s = true → Lf l (spB l s) q → Lf l s q
def aq8 (l:List Fd):Nat → AS → List AS
 | 0,s=>[s]
 | k + 1,s=>if qr l s = true then aq8 l k (spA l s) ++ aq8 l k (spB l s) else [s]
end Go.Hx
end
section
namespace Go.Hx
open Go.Proofs
def u8A (b:BitVec 8):AS:=b.setWidth 32
abbrev u8C:BitVec 8 → Nat → PV:=fun b _=>.raw (.int .u8 (b.toNat:Int))
end Go.Hx
end
section
namespace Go.Hx
theorem aau {a b:AS} (h:∀ i,i < 32 → a.getLsbD i = b.getLsbD i):a = b:=BitVec.eq_of_getLsbD_eq h
theorem alj {s t:AS}:s &&& t = 0 ↔ ∀ i,i < 32 → s.getLsbD i = true → t.getLsbD i = false:=by
 constructor
 · intro h i hi hs
   have:=congrArg (fun x:AS=>x.getLsbD i) h
   simp only [BitVec.getLsbD_and,hs,Bool.true_and] at this
   simpa using this
 · intro h
   apply aau
   intro i hi
   have:=h i hi
   rw [BitVec.getLsbD_and]
   cases hs:s.getLsbD i <;> simp_all
theorem agv {s t:AS} (h:s &&& t ≠ 0):∃ i,i < 32 ∧ s.getLsbD i = true ∧ t.getLsbD i = true:=by
 apply Classical.byContradiction
 intro hn
 refine h (alj.2 fun i hi hs=>?_)
 cases ht:t.getLsbD i with
 | false=>rfl
 | true=>exact absurd ⟨i,hi,hs,ht⟩ hn
theorem a3b {s:AS} {i:Nat} (h:s.getLsbD i = true):i < 32:=BitVec.lt_of_getLsbD h
theorem j5 {s t:AS} {i:Nat} (hi:i < 32):(s &&& ~~~t).getLsbD i = (s.getLsbD i && !t.getLsbD i):=by simp [hi]
def ae1 (a:Nat):AS:=1#32 <<< a
def cz (m:Fd) (b:AS):Bool:=decide (b &&& m.lhs = 0) && (decide (b &&& m.rhs ≠ 0) && decide (b &&& ~~~m.rhs ≠ 0))
def hdB (m:Fd) (b:AS):AS:=if cz m b = true then b &&& m.rhs else b
def tlB (m:Fd) (b:AS):List AS:=if cz m b = true then [b &&& ~~~m.rhs] else []
def stB (m:Fd) (l:List AS) (i:Nat):List AS:=(l.take i).map (hdB m) ++ l.drop i ++ (l.take i).flatMap (tlB m)
def rdB (m:Fd) (l:List AS):List AS:=l.map (hdB m) ++ l.flatMap (tlB m)
def bu (ms:List Fd) (l:List AS):List AS:=ms.foldl (fun l m=>rdB m l) l
def j4:List Fd → List AS → Bool
 | [],_=>false
 | m :: ms,l=>l.any (cz m) || j4 ms (rdB m l)
def qf (ms:List Fd):Nat → List AS → List AS
 | 0,l=>l
 | f + 1,l=>if j4 ms l = true then qf ms f (bu ms l) else bu ms l
def muB:List AS → Nat
 | []=>0
 | b :: l=>b.toNat * b.toNat + muB l
theorem a5r:∀ (l k:List AS),muB (l ++ k) = muB l + muB k
 | [],k=>by simp [muB]
 | b :: l,k=>by simp [muB,a5r l k];omega
theorem a1u (b r:AS):(b &&& r).toNat + (b &&& ~~~r).toNat = b.toNat:=by
 have h:(b &&& r) &&& (b &&& ~~~r) = 0#32:=alj.2 fun i hi hs=>by
  rw [j5 hi]
  rw [BitVec.getLsbD_and,Bool.and_eq_true] at hs
  simp [hs.1,hs.2]
 have e:(b &&& r) + (b &&& ~~~r) = b:=by
  rw [BitVec.add_eq_or_of_and_eq_zero _ _ h]
  apply aau
  intro i hi
  rw [BitVec.getLsbD_or,j5 hi,BitVec.getLsbD_and]
  cases b.getLsbD i <;> cases r.getLsbD i <;> rfl
 rw [← BitVec.toNat_add_of_and_eq_zero h,e]
theorem xl {m:Fd} {b:AS}:cz m b = true ↔ b &&& m.lhs = 0 ∧ b &&& m.rhs ≠ 0 ∧ b &&& ~~~m.rhs ≠ 0:=by simp [cz]
theorem ajh {x y z:Nat} (h:x + y = z) (hx:0 < x) (hy:0 < y):x * x + y * y < z * z:=by
 subst h
 rw [Nat.add_mul,Nat.mul_add,Nat.mul_add]
 have:0 < x * y:=Nat.mul_pos hx hy
 have:0 < y * x:=Nat.mul_pos hy hx
 omega
theorem y8 {b:AS} (h:b ≠ 0):0 < b.toNat:=Nat.pos_of_ne_zero fun e=>h (BitVec.eq_of_toNat_eq e)
theorem ahe (m:Fd):∀ (l:List AS),muB (l.map (hdB m)) + muB (l.flatMap (tlB m)) + (if l.any (cz m) = true then 1 else 0) ≤ muB l
 | []=>by simp [muB]
 | b :: l=>by
  have ih:=ahe m l
  rw [List.map_cons,List.flatMap_cons,a5r,List.any_cons]
  simp only [muB]
  by_cases h:cz m b = true
  · obtain ⟨_,h2,h3⟩:=xl.1 h
    have:=ajh (a1u b m.rhs) (y8 h2) (y8 h3)
    simp only [hdB,tlB,h,if_true,muB,Bool.true_or]
    omega
  · rw [Bool.not_eq_true] at h
    simp only [hdB,tlB,h,muB,Bool.false_or,Bool.false_eq_true,if_false]
    omega
theorem an4 (m:Fd) (l:List AS):muB (rdB m l) + (if l.any (cz m) = true then 1 else 0) ≤ muB l:=by
 unfold rdB
 rw [a5r]
 exact ahe m l
theorem a5h:∀ (ms:List Fd) (l:List AS),muB (bu ms l) + (if j4 ms l = true then 1 else 0) ≤ muB l
 | [],l=>by simp [bu,j4]
 | m :: ms,l=>by
  have h1:=an4 m l
  have h2:=a5h ms (rdB m l)
  show muB (bu ms (rdB m l)) + _ ≤ _
  simp only [j4]
  by_cases h3:l.any (cz m) = true <;> by_cases h4:j4 ms (rdB m l) = true <;> simp only [h3,h4,Bool.true_or,Bool.or_true,Bool.or_false,if_true,Bool.false_eq_true,if_false] at h1 h2 ⊢ <;> omega
theorem ajj {m:Fd} {l:List AS} (h:l.any (cz m) = false):rdB m l = l:=by
 have h':∀ b ∈ l,cz m b = false:=fun b hb=>by
  have:=List.any_eq_false.1 h b hb
  simpa using this
 have e1:l.map (hdB m) = l:=by
  conv=>rhs;rw [← List.map_id l]
  exact List.map_congr_left fun b hb=>by simp [hdB,h' b hb]
 have e2:l.flatMap (tlB m) = []:=List.flatMap_eq_nil_iff.2 fun b hb=>by simp [tlB,h' b hb]
 simp [rdB,e1,e2]
theorem aac:∀ {ms:List Fd} {l:List AS},j4 ms l = false → bu ms l = l ∧ ∀ m ∈ ms,∀ b ∈ l,cz m b = false
 | [],l,_=>⟨rfl,fun _ h=>by cases h⟩
 | m :: ms,l,h=>by
  simp only [j4,Bool.or_eq_false_iff] at h
  have e:=ajj h.1
  rw [e] at h
  obtain ⟨h1,h2⟩:=aac h.2
  refine ⟨?_,fun k hk b hb=>?_⟩
  · show bu ms (rdB m l) = l
    rw [e]
    exact h1
  · rcases List.mem_cons.1 hk with rfl | hk
    · have:=List.any_eq_false.1 h.1 b hb
      simpa using this
    · exact h2 k hk b hb
structure Blk (ms:List Fd) (rest:AS) (bs:List AS):Prop where
 nz:∀ b ∈ bs,b ≠ 0
 cnt:∀ a,a < 32 → bs.countP (fun b=>b.getLsbD a) = if rest.getLsbD a = true then 1 else 0
 ind:∀ G:AS → Prop,G rest → (∀ m ∈ ms,∀ b,G b → cz m b = true → G (b &&& m.rhs) ∧ G (b &&& ~~~m.rhs)) → ∀ b ∈ bs,G b
theorem Blk.rd {ms:List Fd} {rest:AS} {bs:List AS} (h:Blk ms rest bs) {m:Fd} (hm:m ∈ ms):Blk ms rest (rdB m bs):=by
 have hmem:∀ {b:AS},b ∈ rdB m bs → ∃ b0 ∈ bs,(cz m b0 = false ∧ b = b0) ∨ (cz m b0 = true ∧ (b = b0 &&& m.rhs ∨ b = b0 &&& ~~~m.rhs)):=by
  intro b hb
  unfold rdB at hb
  rcases List.mem_append.1 hb with hb | hb
  · obtain ⟨b0,h0,rfl⟩:=List.mem_map.1 hb
    refine ⟨b0,h0, ?_⟩
    cases hs:cz m b0 <;> simp [hdB,hs]
  · obtain ⟨b0,h0,hb⟩:=List.mem_flatMap.1 hb
    refine ⟨b0,h0, ?_⟩
    cases hs:cz m b0
    · simp [tlB,hs] at hb
    · simp [tlB,hs] at hb
      exact .inr ⟨rfl, .inr hb⟩
 refine ⟨fun b hb=>?_,fun a ha=>?_,fun G h0 hG b hb=>?_⟩
 · obtain ⟨b0,h0,⟨_,rfl⟩ | ⟨hs,hb⟩⟩:=hmem hb
   · exact h.nz _ h0
   · obtain ⟨_,h2,h3⟩:=xl.1 hs
     rcases hb with rfl | rfl
     · exact h2
     · exact h3
 · rw [← h.cnt a ha]
   have:∀ l:List AS,(l.map (hdB m)).countP (fun b=>b.getLsbD a) + (l.flatMap (tlB m)).countP (fun b=>b.getLsbD a) = l.countP (fun b=>b.getLsbD a):=by
    intro l
    induction l with
    | nil=>rfl
    | cons b l ih =>
     rw [List.map_cons,List.flatMap_cons,List.countP_append,List.countP_cons,List.countP_cons,← ih]
     cases hs:cz m b
     · simp [hdB,tlB,hs];omega
     · simp only [hdB,tlB,hs,if_true,List.countP_cons,List.countP_nil,j5 ha,BitVec.getLsbD_and]
       cases b.getLsbD a <;> cases m.rhs.getLsbD a <;> simp <;> omega
   unfold rdB
   rw [List.countP_append]
   exact this bs
 · obtain ⟨b0,h1,⟨_,rfl⟩ | ⟨hs,hb⟩⟩:=hmem hb
   · exact h.ind G h0 hG _ h1
   · obtain ⟨g1,g2⟩:=hG m hm b0 (h.ind G h0 hG _ h1) hs
     rcases hb with rfl | rfl
     · exact g1
     · exact g2
theorem Blk.ron {ms:List Fd} {rest:AS}:∀ {ms':List Fd} {bs:List AS},(∀ m ∈ ms',m ∈ ms) → Blk ms rest bs → Blk ms rest (bu ms' bs)
 | [],bs,_,h=>h
 | m :: ms',bs,hm,h=>Blk.ron (ms':=ms') (fun k hk=>hm k (by simp [hk])) (h.rd (hm m (by simp)))
theorem Blk.end_ {ms:List Fd} {rest:AS}:∀ {f:Nat} {bs:List AS},muB bs < f → Blk ms rest bs → Blk ms rest (qf ms f bs) ∧ ∀ m ∈ ms,∀ b ∈ qf ms f bs,cz m b = false
 | 0,bs,hf,_=>absurd hf (Nat.not_lt_zero _)
 | f + 1,bs,hf,h=>by
  have hr:=h.ron (ms':=ms) (fun _ h=>h)
  unfold qf
  cases hc:j4 ms bs
  · obtain ⟨e,hs⟩:=aac hc
    simp only [Bool.false_eq_true,if_false]
    rw [e]
    exact ⟨h,hs⟩
  · have:=a5h ms bs
    rw [hc] at this
    simp only [if_true] at this ⊢
    exact Blk.end_ (by omega) hr
def gm (rest:AS):List AS:=if rest = 0 then [] else [rest]
theorem Blk.start (ms:List Fd) (rest:AS):Blk ms rest (gm rest):=by
 unfold gm
 by_cases h:rest = 0
 · subst h
   simp only [if_true]
   exact ⟨fun _ h=>by (cases h),fun a ha=>by simp,fun _ _ _ _ h=>by cases h⟩
 · rw [if_neg h]
   exact ⟨fun b hb=>by (simp at hb;subst hb;exact h),fun a ha=>by simp [List.countP_cons],fun G h0 _ b hb=>by (simp at hb;subst hb;exact h0)⟩
theorem a6l (rest:AS):muB (gm rest) < 18446744073709551616:=by
 unfold gm
 split
 · simp [muB]
 · simp only [muB]
   have h:=rest.isLt
   have:=Nat.mul_le_mul (Nat.le_of_lt_succ (show rest.toNat < 4294967295 + 1 from h)) (Nat.le_of_lt_succ (show rest.toNat < 4294967295 + 1 from h))
   omega
def blks (ms:List Fd) (rest:AS):List AS:=qf ms 18446744073709551616 (gm rest)
theorem amj (ms:List Fd) (rest:AS):Blk ms rest (blks ms rest) ∧ ∀ m ∈ ms,∀ b ∈ blks ms rest,cz m b = false:=Blk.end_ (a6l rest) (Blk.start ms rest)
theorem aen {p:AS → Bool} {l:List AS} (h:l.countP p ≤ 1) {a b:AS} (ha:a ∈ l) (hb:b ∈ l) (pa:p a = true) (pb:p b = true):a = b:=by
 rw [List.countP_eq_length_filter] at h
 have h1:a ∈ l.filter p:=List.mem_filter.2 ⟨ha,pa⟩
 have h2:b ∈ l.filter p:=List.mem_filter.2 ⟨hb,pb⟩
 cases hl:l.filter p with
 | nil=>rw [hl] at h1;cases h1
 | cons x r =>
  rw [hl] at h h1 h2
  cases r with
  | nil=>simp at h1 h2;rw [h1,h2]
  | cons=>simp at h
theorem Blk.one {ms:List Fd} {rest:AS} {bs:List AS} (h:Blk ms rest bs) {b b':AS} (hb:b ∈ bs) (hb':b' ∈ bs) {a:Nat} (h1:b.getLsbD a = true) (h2:b'.getLsbD a = true):b = b':=by
 refine aen (p:=fun b=>b.getLsbD a) ?_ hb hb' h1 h2
 rw [h.cnt a (a3b h1)]
 split <;> omega
theorem Blk.sub {ms:List Fd} {rest:AS} {bs:List AS} (h:Blk ms rest bs) {b:AS} (hb:b ∈ bs):Go.Hx.sub b rest:=bf.2 fun a ha hba=>by
 have h1:=h.cnt a ha
 have h2:0 < bs.countP (fun b=>b.getLsbD a):=List.countP_pos_iff.2 ⟨b,hb,hba⟩
 cases hr:rest.getLsbD a with
 | true=>rfl
 | false=>rw [hr] at h1;simp only [Bool.false_eq_true,if_false] at h1;omega
end Go.Hx
end
section
namespace Go.Hx
def sgl (f:Fd):List Fd:=(bj f.rhs).map fun a=>⟨f.lhs,ae1 a⟩
def ta (fs ms:List Fd):List Fd:=ms ++ fs.flatMap sgl
def avr (T:List AS) (r:AS):List AS:=if r ∈ T then T else T ++ [r]
def aut (s:AS) (o:List AS) (T:List AS):List AS:=T.foldl (fun o r=>avr o (r &&& ~~~s)) o
def ayg (T:List AS) (s:AS):List AS:=aut s [] T
def avq (d:Fd) (r k:AS):AS:=(r &&& (d.lhs ||| d.rhs)) ||| (k &&& ~~~(d.lhs ||| d.rhs))
def agB (d:Fd) (r k:AS):Bool:=decide ((r ^^^ k) &&& d.lhs = 0)
structure atg (fs ms:List Fd) (T:List AS):Prop where
 fd:∀ d ∈ fs,∀ r ∈ T,∀ k ∈ T,agB d r k = true → (r ^^^ k) &&& d.rhs = 0
 mv:∀ d ∈ ms,∀ r ∈ T,∀ k ∈ T,agB d r k = true → avq d r k ∈ T
def at7 (fs:List Fd) (bs:List AS) (a:Nat):Prop:=ae1 a ∈ bs ∧ ∃ f ∈ fs,f.rhs.getLsbD a = true ∧ f.lhs.getLsbD a = false
structure JT (fs:List Fd) (bs:List AS) (rest:AS) (T:List AS):Prop where
 z:(0:AS) ∈ T
 r:∀ r ∈ T,sub r rest ∧ ∀ b ∈ bs,b &&& r = 0 ∨ sub b r
 top:∃ L ∈ T,(∀ r ∈ T,sub r L) ∧ ∀ a,a < 32 → rest.getLsbD a = true → L.getLsbD a = false → at7 fs bs a
section
variable {fs ms:List Fd} {bs:List AS} {rest:AS} {T:List AS}
def axs (T:List AS) (b:AS):Prop:=∀ r ∈ T,∀ k ∈ T,((r &&& b) ||| (k &&& ~~~b)) ∈ T
structure ays (fs ms:List Fd) (bs:List AS) (rest:AS) (T:List AS):Prop where
 j:JT fs bs rest T
 c:atg fs ms T
def qB (T:List AS) (L x rest y:AS):Prop:=y ≠ 0 ∧ sub y rest ∧ (L &&& ~~~(x ||| y)) ∈ T
end
end Go.Hx
end

/- A part of the proof: Ch14 Ch18 Ch19 Ch20 Ch21 Ch24 Cc1 Cc2 Cc3 Ls1 Cs24 Cs26 V25 Cs27 Cs28 Cs30. -/
import Derived.Test.YtkkenjdfbojdlaaGreatDoorFx22
import Derived.Test.YtkkenjdfbojdlaaGreatDoorFx23
import Derived.Test.YtkkenjdfbojdlaaGreatDoorFx29
set_option linter.all false
set_option maxRecDepth 100000
namespace Go.Hx
section
theorem afm:∀ {l:List Rw},(∀ r,r ∈ l → r.length ≤ 16) → l.flatten.length ≤ 16 * l.length
 | [],_=>by simp
 | r :: l,h=>by
  have h1:=h r (by simp)
  have h2:=afm (l:=l) fun r hr=>h r (by simp [hr])
  simp only [List.flatten_cons,List.length_append,List.length_cons]
  omega
abbrev FU:Nat:=1300000
theorem ap3 {n:Int} {l:List Rw} (h:tok n l = true):muC l.flatten l < FU:=by
 obtain ⟨h0,h1,h2,h3⟩:=n7 h
 have h4:=afm (l:=l) fun r hr=>by have:=(vg h r hr).1;omega
 have h5:aal l.flatten l ≤ l.flatten.length:=List.countP_le_length
 unfold muC
 show _ < 1300000
 omega
theorem b7m {n:Int} {i:Nat} {p:AS} {k a N:Nat} (h:dx p (k:Int) = true) (hN:N = n.toNat) (ha:a = k) :
 CoO (.arr true 1 3 N (eu (lf zC (stT n i p k)) a 0 [.raw (.int .i64 (k:Int))])) (.arr true 1 3 N (lf zC (stT n i p (k + 1)))):=by
 subst ha
 refine ⟨fun h=>h,rfl,rfl,rfl,fun c j hc hj=>CoP.of_eq ?_⟩
 obtain rfl:j = 0:=by omega
 show _ = PV.raw (.int .i64 ((stT n i p (a + 1)).getD c default))
 rw [a6q c (by omega)]
 unfold eu
 by_cases e:c = a
 · rw [if_pos ⟨e,by omega,by simp⟩,if_pos e]
   unfold stV
   rw [if_pos h]
   rfl
 rw [if_neg (fun x=>e x.1),if_neg e]
 rfl
theorem ape {k:Nat} (h:k < 32):dx (jb 32) (k:Int) = true:=by
 rw [n4 h,pk 32 k h]
 exact decide_eq_true h
theorem aog {n:Int} {k:Nat} (h1:n ≤ 16) (hk:n.toNat ≤ k):stT n 0 (jb 32) k = eo n:=by
 rw [ajw _ _ _ hk]
 unfold stR eo
 refine List.map_congr_left fun c hc=>?_
 have:=List.mem_range.1 hc
 unfold stV
 rw [if_pos (ape (by omega))]
theorem ao5 {n:Int} {k:Nat} (h1:n ≤ 16) (hk:n.toNat ≤ k):CoC (.one (.sl n.toNat 1 false (lf zC (stT n 0 (jb 32) k)))) (pZ (eo n)):=by
 rw [aog h1 hk]
 exact axu (an2 n)
abbrev xy (n:Int) (x:Fd):List AS:=[x.lhs ||| x.rhs,x.lhs ||| (aq n &&& ~~~x.rhs)]
def bda (n:Int) (p m:List Fd) (x:Fd):Bool × Int :=
 if d9 n p m = 0 then
  if inU n x = true then
   if (i9 n (xy n x)).2.2 = 0 then
    if (jz FU (i9 n (xy n x)).1 (i9 n (xy n x)).2.1 p m).2.2 = 0 then ((jz FU (i9 n (xy n x)).1 (i9 n (xy n x)).2.1 p m).2.1.2.any (fun r=>decide (r = eo n)),0)
    else (false,(jz FU (i9 n (xy n x)).1 (i9 n (xy n x)).2.1 p m).2.2)
   else (false,(i9 n (xy n x)).2.2)
  else (false,1)
 else (false,d9 n p m)
end
section
theorem aqp {s:AS} {n:Nat} (hn:n ≤ 32) (h:∀ j,j ∈ ap s → j < n):iz s n = ap s:=by
 have h2:∀ d,n + d ≤ 32 → iz s (n + d) = iz s n:=by
  intro d
  induction d with
  | zero=>intro _;rfl
  | succ d ih =>
   intro hd
   have hf:dx s ((n + d:Nat):Int) = false:=by
    rw [n4 (by omega),Bool.eq_false_iff]
    intro e
    have:=h _ (kb.2 ⟨by omega,e⟩)
    omega
   rw [← ih (by omega)]
   exact vf (i:=n + d) (show n + d < 32 by omega) hf
 have:=h2 (32 - n) (by omega)
 rw [← this,show n + (32 - n) = 32 by omega]
 rfl
end
section
open Go.Proofs
def muK (p:List Fd) (k:Nat):Bool:=decide (p.length ≤ k)
def ixK (p:List Fd) (k:Nat):Nat:=if p.length ≤ k then k - p.length else k
def chE (l:List Rw) (p m:List Fd) (s:St):Bool:=if s.1 = true then b8n l (m.getD s.2.1 default) s.2.2.1 s.2.2.2 else gt l (p.getD s.2.1 default) s.2.2.1 s.2.2.2
def b8p (l:List Rw) (p m:List Fd) (k a b:Nat):Bool:=decide (a ≠ b) && chE l p m (muK p k,ixK p k,a,b)
def bd4 (l:List Rw) (p m:List Fd):Option St:=(kx (b8p l p m) (p.length + m.length) l.length).map fun x=>(muK p x.1,ixK p x.1,x.2.1,x.2.2)
section
variable {l:List Rw} {p m:List Fd} {k a b:Nat}
end
end
section
theorem ats (a:Rw) (s:AS):fw a a s = a:=by
 refine nk (pj a a s) fun j hj=>?_
 rw [pj] at hj
 unfold fw
 rw [List.getD_eq_getElem?_getD,List.getElem?_map,List.getElem?_range hj]
 show (if dx s (j:Int) = true then a.getD j default else a.getD j default) = _
 split <;> rfl
theorem amg {l:List Rw} {x:Fd} {a:Nat}:gt l x a a = false:=a6w (a3x fun _ _ _=>rfl)
theorem amk {l:List Rw} {x:Fd} {a:Nat} (ha:a < l.length):gr l x a a = false:=by
 refine a6h ?_
 rw [ats,List.any_eq_true]
 exact ⟨_,a09 ha,decide_eq_true rfl⟩
end
section
def dm (l:List Rw) (p m:List Fd) (mu:Bool) (i a b:Int):Prop:=a < 0 ∨ (l.length:Int) ≤ a ∨ b < 0 ∨ (l.length:Int) ≤ b ∨ a = b ∨ i < 0 ∨ (mu = true ∧ (m.length:Int) ≤ i) ∨ (mu = false ∧ (p.length:Int) ≤ i)
instance (l:List Rw) (p m:List Fd) (mu:Bool) (i a b:Int):Decidable (dm l p m mu i a b):=by unfold dm;infer_instance
def jy (n:Int) (l:List Rw) (p m:List Fd) (mu:Bool) (i a b:Int):Int × List Rw × Int :=
 if ckE n l p m = 0 then if dm l p m mu i a b then (0,[],1) else ez n l p m (mu,i.toNat,a.toNat,b.toNat) else (0,[],ckE n l p m)
section
variable {n:Int} {l:List Rw} {p m:List Fd} {mu:Bool} {i a b:Int}
end
end
section
theorem aj5 {n:Int} (h0:0 ≤ n) (h1:n ≤ 16) {x:Fd}:inU n x = true ↔ sub (x.lhs ||| x.rhs) (aq n):=by
 rw [ana h0 h1]
 unfold inU
 rw [decide_eq_true_iff]
end
section
def AgE (E:Int → Int → Prop) (a b:Rw) (s:AS):Prop:=∀ i:Nat,i < a.length → dx s (i:Int) = true → E (a.getD i default) (b.getD i default)
structure Mdl (N:Nat) (p m:List Fd) (E:Int → Int → Prop) (R:Rw → Prop):Prop where
 refl:∀ x,E x x
 symm:∀ {x y},E x y → E y x
 trans:∀ {x y z},E x y → E y z → E x z
 len:∀ {r},R r → r.length = N
 cong:∀ {r r':Rw},R r → r'.length = r.length → (∀ i,i < r.length → E (r.getD i default) (r'.getD i default)) → R r'
 fd:∀ {x},x ∈ p → ∀ {a b},R a → R b → AgE E a b x.lhs → AgE E a b x.rhs
 mv:∀ {x},x ∈ m → ∀ {a b},R a → R b → AgE E a b x.lhs → R (fw a b (x.lhs ||| x.rhs))
def LE (N:Nat) (p m:List Fd) (l:List Rw) (x y:Int):Prop:=∀ E R,Mdl N p m E R → (∀ r,r ∈ l → R r) → E x y
def LR (N:Nat) (p m:List Fd) (l:List Rw) (r:Rw):Prop:=∀ E R,Mdl N p m E R → (∀ r,r ∈ l → R r) → R r
theorem az6 (N:Nat) (p m:List Fd):Mdl N p m (fun _ _=>True) (fun r=>r.length = N) :=
 ⟨fun _=>trivial,fun _=>trivial,fun _ _=>trivial,fun h=>h,fun h e _=>e.trans h,fun _ _ _ _ _ _ _ _ _=>trivial,fun _ a b _ hb _=>(pj _ _ _).trans hb⟩
theorem a5b {N:Nat} {p m:List Fd} {l:List Rw} (hl:∀ r,r ∈ l → r.length = N):Mdl N p m (LE N p m l) (LR N p m l) where
 refl x:=fun E R h _=>h.refl x
 symm h:=fun E R k kl=>k.symm (h E R k kl)
 trans h h2:=fun E R k kl=>k.trans (h E R k kl) (h2 E R k kl)
 len h:=h _ _ (az6 N p m) hl
 cong h e h2:=fun E R k kl=>k.cong (h E R k kl) e fun i hi=>h2 i hi E R k kl
 fd hx _ _ ha hb hl:=fun i hi hs E R k kl=>k.fd hx (ha E R k kl) (hb E R k kl) (fun j hj hh=>hl j hj hh E R k kl) i hi hs
 mv hx _ _ ha hb hl:=fun E R k kl=>k.mv hx (ha E R k kl) (hb E R k kl) fun j hj hh=>hl j hj hh E R k kl
structure Ch (N:Nat) (p m:List Fd) (l0 l:List Rw) (σ:Int → Int):Prop where
 rows:∀ r,r ∈ l → LR N p m l0 r
 sym:∀ s,LE N p m l0 s (σ s)
 img:∀ r,r ∈ l0 → r.map σ ∈ l
 fix:∀ r,r ∈ l → ∀ z,z ∈ r → σ z = z
 le:∀ s,σ s ≤ s
section
variable {N:Nat} {p m:List Fd} {l0 l l':List Rw} {σ σ':Int → Int} {n:Int}
theorem Ch.start:Ch N p m l0 l0 id:=⟨fun r hr E R _ hl=>hl r hr,fun s E R k _=>k.refl s,fun r hr=>by rw [List.map_id];exact hr,fun _ _ _ _=>rfl,fun s=>Int.le_refl s⟩
theorem Ch.congr (h:Ch N p m l0 l σ) (e:∀ r,r ∈ l' ↔ r ∈ l):Ch N p m l0 l' σ :=
 ⟨fun r hr=>h.rows r ((e r).1 hr),h.sym,fun r hr=>(e _).2 (h.img r hr),fun r hr=>h.fix r ((e r).1 hr),h.le⟩
def nq (hi lo z:Int):Int:=if z = hi then lo else z
theorem jk {f:Int → Int} {r:Rw} {i:Nat} (h:i < r.length):(r.map f).getD i default = f (r.getD i default):=by
 rw [List.getD_eq_getElem?_getD,List.getElem?_map,List.getElem?_eq_getElem h,List.getD_eq_getElem?_getD,List.getElem?_eq_getElem h]
 rfl
theorem Ch.sub (hl0:∀ r,r ∈ l0 → r.length = N) (h:Ch N p m l0 l σ) {hi lo:Int} (hE:LE N p m l0 hi lo) (hle:lo ≤ hi) (hin:∃ r,r ∈ l ∧ lo ∈ r):Ch N p m l0 (l.map fun r=>r.map (nq hi lo)) (fun s=>nq hi lo (σ s)):=by
 have hm:=a5b (p:=p) (m:=m) hl0
 have hs:∀ z,LE N p m l0 z (nq hi lo z):=fun z=>by
  unfold nq
  split
  · rename_i e;rw [e];exact hE
  exact hm.refl z
 refine ⟨fun r hr=>?_,fun s=>hm.trans (h.sym s) (hs _),fun r hr=>?_,fun r hr z hz=>?_,fun s=>?_⟩
 · obtain ⟨r0,h0,rfl⟩:=List.mem_map.1 hr
   exact hm.cong (h.rows r0 h0) (by simp) fun i hi=>by rw [jk hi];exact hs _
 · refine List.mem_map.2 ⟨_,h.img r hr, ?_⟩
   rw [List.map_map]
   rfl
 · obtain ⟨r0,h0,rfl⟩:=List.mem_map.1 hr
   obtain ⟨y,hy,rfl⟩:=List.mem_map.1 hz
   obtain ⟨r1,h1,h2⟩:=hin
   have e1:=h.fix r0 h0 y hy
   have e2:=h.fix r1 h1 lo h2
   by_cases e:y = hi
   · have e3:nq hi lo y = lo:=if_pos e
     show nq hi lo (σ (nq hi lo y)) = nq hi lo y
     rw [e3,e2]
     unfold nq
     split <;> rfl
   have e3:nq hi lo y = y:=if_neg e
   show nq hi lo (σ (nq hi lo y)) = nq hi lo y
   rw [e3,e1,e3]
 have h1:=h.le s
 have h2:nq hi lo (σ s) ≤ σ s:=by
  unfold nq
  split <;> omega
 exact Int.le_trans h2 h1
theorem ams {M:Nat → Nat → Int} {a b j:Nat}:ey l (eqM M a b j) = (ey l M).map fun r=>r.map (nq (hiI (M a j) (M b j)) (loI (M a j) (M b j))):=by
 unfold ey
 rw [List.map_map]
 refine List.map_congr_left fun i _=>?_
 show _ = List.map _ (List.map _ _)
 rw [List.map_map]
 rfl
theorem aoq {M:Nat → Nat → Int} {a j:Nat} (ha:a < l.length) (hj:j < (l.getD a default).length):∃ r,r ∈ ey l M ∧ M a j ∈ r :=
 a7r.2 ⟨a,j,ha,hj,rfl⟩
theorem Ch.eqMs (hl0:∀ r,r ∈ l0 → r.length = N) {a b:Nat} (ha:a < l.length) (hb:b < l.length):∀ {js:List Nat} {M:Nat → Nat → Int} {σ:Int → Int},Ch N p m l0 (ey l M) σ → (∀ j,j ∈ js → j < (l.getD a default).length ∧ j < (l.getD b default).length ∧ LE N p m l0 (M a j) (M b j)) →
 ∃ σ',Ch N p m l0 (ey l (eqMs M a b js)) σ'
 | [],M,σ,h,_=>⟨σ,h⟩
 | j :: js,M,σ,h,hj=>by
  obtain ⟨h1,h2,h3⟩:=hj j (by simp)
  have hm:=a5b (p:=p) (m:=m) hl0
  have hlo:loI (M a j) (M b j) ≤ hiI (M a j) (M b j):=by unfold loI hiI;split <;> split <;> omega
  have hE:LE N p m l0 (hiI (M a j) (M b j)) (loI (M a j) (M b j)):=by
   rcases ay5 (M a j) (M b j) with e | e <;> rcases alz (M a j) (M b j) with f | f <;> rw [e,f]
   · exact hm.refl _
   · exact h3
   · exact hm.symm h3
   exact hm.refl _
  have hin:∃ r,r ∈ ey l M ∧ loI (M a j) (M b j) ∈ r:=by
   rcases alz (M a j) (M b j) with f | f <;> rw [f]
   · exact aoq ha h1
   exact aoq hb h2
  have hq:=h.sub hl0 hE hlo hin
  rw [← ams] at hq
  have hs:∀ z,LE N p m l0 z (if z = hiI (M a j) (M b j) then loI (M a j) (M b j) else z):=fun z=>by
   split
   · rename_i e;rw [e];exact hE
   exact hm.refl z
  exact Ch.eqMs hl0 ha hb (js:=js) hq fun k hk=>by
   obtain ⟨h4,h5,h6⟩:=hj k (by simp [hk])
   exact ⟨h4,h5,hm.trans (hm.symm (hs (M a k))) (hm.trans h6 (hs (M b k)))⟩
theorem ahy:ey l (fu l) = l:=by
 refine nk (ni _ _) fun i hi=>?_
 rw [ni] at hi
 rw [aca hi]
 refine nk (by simp) fun k hk=>?_
 simp only [List.length_map,List.length_range] at hk
 rw [List.getD_eq_getElem?_getD,List.getElem?_map,List.getElem?_range hk]
 rfl
theorem am6 (hl0:∀ r,r ∈ l0 → r.length = N) {a b:Rw} {s:AS} (h:ld a b s = true):AgE (LE N p m l0) a b s:=fun i hi hs=>by
 rw [of_decide_eq_true h i hi hs]
 exact (a5b hl0).refl _
theorem cu {α:Type} [Inhabited α] {l:List α} {i:Nat} (h:i < l.length):l.getD i default ∈ l:=by
 rw [List.getD_eq_getElem?_getD,List.getElem?_eq_getElem h]
 exact List.getElem_mem h
theorem awl {a b:Rw} {s:AS} (hl:a.length = b.length) {z:Int} (hz:z ∈ fw a b s):z ∈ a ∨ z ∈ b:=by
 unfold fw at hz
 rw [List.mem_map] at hz
 obtain ⟨i,hi,rfl⟩:=hz
 have hi:=List.mem_range.1 hi
 split
 · exact .inl (cu (by omega))
 exact .inr (cu hi)
def b6g (l:List Rw) (p m:List Fd) (s:St):Prop:=s.2.2.1 < l.length ∧ s.2.2.2 < l.length ∧ (s.1 = false → s.2.1 < p.length) ∧ (s.1 = true → s.2.1 < m.length)
theorem Ch.app (hl0:∀ r,r ∈ l0 → r.length = n.toNat) (hT:tok n l = true) (hp:p.all (inU n) = true) (h:Ch n.toNat p m l0 l σ) {s:St} (hs:b6g l p m s) (he:(ez n l p m s).2.2 = 0) :
 (ez n l p m s).1 = n ∧ ∃ σ',Ch n.toNat p m l0 (ez n l p m s).2.1 σ':=by
 obtain ⟨mu,i,a,b⟩:=s
 obtain ⟨ha,hb,hf,hv⟩:=hs
 obtain ⟨h0,h1,h2,h3⟩:=n7 hT
 have ha:a < l.length:=ha
 have hb:b < l.length:=hb
 have hra:=h3 a ha
 have hrb:=h3 b hb
 cases mu with
 | false =>
  have hi:i < p.length:=hf rfl
  have e0:ez n l p m (false,i,a,b) = fdE n l a b (p.getD i default):=rfl
  rw [e0] at he ⊢
  by_cases hg:ld (l.getD a default) (l.getD b default) (p.getD i default).lhs = true
  · have e1:fdE n l a b (p.getD i default) = (n,c5 (ey l (Go.Hx.eqMs (fu l) a b (ap (p.getD i default).rhs))),0):=if_pos hg
    rw [e1]
    refine ⟨rfl, ?_⟩
    have hu:inU n (p.getD i default) = true:=List.all_eq_true.1 hp _ (cu hi)
    have hm:=a5b (p:=p) (m:=m) hl0
    have hR:=hm.fd (cu hi) (h.rows _ (cu ha)) (h.rows _ (cu hb)) (am6 hl0 hg)
    obtain ⟨σ',hσ⟩:=Ch.eqMs (p:=p) (m:=m) hl0 ha hb (js:=ap (p.getD i default).rhs) (M:=fu l) (σ:=σ) (by rw [ahy];exact h) fun j hj=>by
     have h4:=aa9 h0 h1 hu hj
     have h5:=kb.1 hj
     refine ⟨Nat.lt_of_lt_of_eq h4 hra.symm,Nat.lt_of_lt_of_eq h4 hrb.symm,hR j (Nat.lt_of_lt_of_eq h4 hra.symm) (by rw [n4 h5.1];exact h5.2)⟩
    exact ⟨σ',hσ.congr fun r=>gc⟩
  have e1:fdE n l a b (p.getD i default) = (0,[],1):=if_neg hg
  rw [e1] at he
  exact absurd he (by decide)
 | true =>
  have hi:i < m.length:=hv rfl
  have e0:ez n l p m (true,i,a,b) = mvE n l a b (m.getD i default):=rfl
  rw [e0] at he ⊢
  by_cases hg:ld (l.getD a default) (l.getD b default) (m.getD i default).lhs = true
  · have e1:mvE n l a b (m.getD i default) = ss n l (fw (l.getD a default) (l.getD b default) ((m.getD i default).lhs ||| (m.getD i default).rhs)):=if_pos hg
    rw [e1] at he ⊢
    by_cases hbig:256 < (c5 (l ++ [fw (l.getD a default) (l.getD b default) ((m.getD i default).lhs ||| (m.getD i default).rhs)])).length
    · have e2:ss n l (fw (l.getD a default) (l.getD b default) ((m.getD i default).lhs ||| (m.getD i default).rhs)) = (0,[],3):=if_pos hbig
      rw [e2] at he
      exact absurd he (by decide)
    have e2:ss n l (fw (l.getD a default) (l.getD b default) ((m.getD i default).lhs ||| (m.getD i default).rhs)) = (n,c5 (l ++ [fw (l.getD a default) (l.getD b default) ((m.getD i default).lhs ||| (m.getD i default).rhs)]),0):=if_neg hbig
    rw [e2]
    refine ⟨rfl,σ, ?_⟩
    have hm:=a5b (p:=p) (m:=m) hl0
    have hR:=hm.mv (cu hi) (h.rows _ (cu ha)) (h.rows _ (cu hb)) (am6 hl0 hg)
    refine ⟨fun r hr=>?_,h.sym,fun r hr=>gc.2 (List.mem_append_left _ (h.img r hr)),fun r hr z hz=>?_,h.le⟩
    · rcases List.mem_append.1 (gc.1 hr) with h4 | h4
      · exact h.rows r h4
      rw [List.mem_singleton.1 h4];exact hR
    rcases List.mem_append.1 (gc.1 hr) with h4 | h4
    · exact h.fix r h4 z hz
    rw [List.mem_singleton.1 h4] at hz
    rcases awl (by omega) hz with h5 | h5
    · exact h.fix _ (cu ha) z h5
    exact h.fix _ (cu hb) z h5
  have e1:mvE n l a b (m.getD i default) = (0,[],1):=if_neg hg
  rw [e1] at he
  exact absurd he (by decide)
theorem a8q {P:Nat → Nat → Nat → Bool} {I L:Nat} (h:kx P I L = none) {i a b:Nat} (hi:i < I) (ha:a < L) (hb:b < L):P i a b = false:=by
 unfold kx at h
 rw [List.findSome?_eq_none_iff] at h
 have h1:=h i (List.mem_range.2 hi)
 rw [List.findSome?_eq_none_iff] at h1
 have h2:=h1 a (List.mem_range.2 ha)
 rw [Option.map_eq_none_iff,List.find?_eq_none] at h2
 exact Bool.eq_false_iff.2 (h2 b (List.mem_range.2 hb))
theorem aqw (h:fj l p m = none):(∀ i,i < p.length → ∀ a,a < l.length → ∀ b,b < l.length → gt l (p.getD i default) a b = false) ∧ ∀ i,i < m.length → ∀ a,a < l.length → ∀ b,b < l.length → gr l (m.getD i default) a b = false:=by
 unfold fj at h
 split at h
 · cases h
 rename_i e
 rw [Option.map_eq_none_iff] at h
 exact ⟨fun i hi a ha b hb=>a8q (P:=fun i a b=>gt l (p.getD i default) a b) e hi ha hb,fun i hi a ha b hb=>a8q (P:=fun i a b=>gr l (m.getD i default) a b) h hi ha hb⟩
theorem wz {α:Type} [Inhabited α] {l:List α} {x:α} (h:x ∈ l):∃ i,i < l.length ∧ l.getD i default = x:=by
 obtain ⟨i,hi,rfl⟩:=List.getElem_of_mem h
 exact ⟨i,hi,by rw [List.getD_eq_getElem?_getD,List.getElem?_eq_getElem hi];rfl⟩
theorem aud {f:Int → Int} {a b:Rw} {s:AS} (hl:a.length = b.length):fw (a.map f) (b.map f) s = (fw a b s).map f:=by
 unfold fw
 rw [List.map_map,List.length_map]
 refine List.map_congr_left fun i hi=>?_
 have hi:=List.mem_range.1 hi
 show _ = f (if dx s (i:Int) = true then a.getD i default else b.getD i default)
 split
 · rw [jk (by omega)]
 rw [jk hi]
theorem Ch.mdl (hT:tok n l = true) (hn:fj l p m = none) (σ:Int → Int):Mdl n.toNat p m (fun x y=>σ x = σ y) (fun r=>r.length = n.toNat ∧ r.map σ ∈ l):=by
 obtain ⟨hF,hM⟩:=aqw hn
 refine ⟨fun _=>rfl,fun h=>h.symm,fun h k=>h.trans k,fun h=>h.1,fun {r r'} h e h2=>⟨e.trans h.1, ?_⟩,fun {x} hx {a b} ha hb hl i hi hs=>?_,fun {x} hx {a b} ha hb hl=>⟨(pj _ _ _).trans hb.1, ?_⟩⟩
 · have:r'.map σ = r.map σ:=by
    refine nk (by simp [e]) fun i hi=>?_
    rw [List.length_map] at hi
    rw [jk hi,jk (by omega)]
    exact (h2 i (by omega)).symm
   rw [this];exact h.2
 · obtain ⟨k,hk,rfl⟩:=wz hx
   obtain ⟨ia,hia,ea⟩:=wz ha.2
   obtain ⟨ib,hib,eb⟩:=wz hb.2
   have h1:=hF k hk ia hia ib hib
   unfold gt at h1
   rw [ea,eb,a3x (fun j hj hs=>by rw [List.length_map] at hj;rw [jk hj,jk (by rw [hb.1,← ha.1];exact hj)];exact hl j hj hs),Bool.true_and,Bool.not_eq_false'] at h1
   have h2:=of_decide_eq_true h1 i (by rw [List.length_map];exact hi) hs
   rw [jk hi,jk (by rw [hb.1,← ha.1];exact hi)] at h2
   exact h2
 obtain ⟨k,hk,rfl⟩:=wz hx
 obtain ⟨ia,hia,ea⟩:=wz ha.2
 obtain ⟨ib,hib,eb⟩:=wz hb.2
 have h1:=hM k hk ia hia ib hib
 unfold gr at h1
 rw [ea,eb,a3x (fun j hj hs=>by rw [List.length_map] at hj;rw [jk hj,jk (by rw [hb.1,← ha.1];exact hj)];exact hl j hj hs),Bool.true_and,Bool.not_eq_false'] at h1
 obtain ⟨r,hr,e⟩:=List.any_eq_true.1 h1
 rw [← aud (by rw [ha.1,hb.1]),← of_decide_eq_true e]
 exact hr
theorem Ch.has (h:Ch n.toNat p m l0 l σ) (hT:tok n l = true) (hl0:∀ r,r ∈ l0 → r.length = n.toNat) (hn:fj l p m = none):(∀ x y,LE n.toNat p m l0 x y → σ x = σ y) ∧ ∀ r,LR n.toNat p m l0 r → r.map σ ∈ l:=by
 have hm:=Ch.mdl (p:=p) (m:=m) hT hn σ
 have hl:∀ r,r ∈ l0 → r.length = n.toNat ∧ r.map σ ∈ l:=fun r hr=>⟨hl0 r hr,h.img r hr⟩
 exact ⟨fun x y e=>e _ _ hm hl,fun r e=>(e _ _ hm hl).2⟩
theorem aby {f:Int → Int}:∀ {r:Rw},(∀ z,z ∈ r → f z = z) → r.map f = r
 | [],_=>rfl
 | z :: r,h=>by rw [List.map_cons,h z (by simp),aby fun y hy=>h y (by simp [hy])]
theorem Ch.mem (h:Ch n.toNat p m l0 l σ) (hT:tok n l = true) (hl0:∀ r,r ∈ l0 → r.length = n.toNat) (hn:fj l p m = none) {r:Rw}:r ∈ l ↔ LR n.toNat p m l0 r ∧ r.map σ = r:=by
 constructor
 · intro hr
   exact ⟨h.rows r hr,aby (h.fix r hr)⟩
 rintro ⟨h1,h2⟩
 rw [← h2]
 exact (h.has hT hl0 hn).2 r h1
end
end
section
def ba6:List (List Int) → List Rw
 | []=>[[]]
 | c :: cs=>c.flatMap fun z=>(ba6 cs).map fun r=>z :: r
section
variable {N:Nat} {p m:List Fd} {l0 l:List Rw}
theorem b2g {a b:Rw} {s:AS} {i:Nat} (h:i < b.length):(fw a b s).getD i default = if dx s (i:Int) = true then a.getD i default else b.getD i default:=by
 unfold fw
 rw [List.getD_eq_getElem?_getD,List.getElem?_map,List.getElem?_range h]
 rfl
theorem at9 (C:Nat → List Int) (hd:∀ i j z,z ∈ C i → z ∈ C j → i = j):Mdl N p m (fun x y=>x = y ∨ ∃ i,x ∈ C i ∧ y ∈ C i) (fun r=>r.length = N ∧ ∀ i,i < N → r.getD i default ∈ C i) where
 refl _:=.inl rfl
 symm h:=by
  rcases h with h | ⟨i,h,k⟩
  · exact .inl h.symm
  exact .inr ⟨i,k,h⟩
 trans h h2:=by
  rcases h with h | ⟨i,h,k⟩
  · rw [h];exact h2
  rcases h2 with h2 | ⟨j,h2,k2⟩
  · rw [← h2];exact .inr ⟨i,h,k⟩
  have:=hd i j _ k h2
  subst this
  exact .inr ⟨i,h,k2⟩
 len h:=h.1
 cong h e h2:=⟨e.trans h.1,fun i hi=>by
  have h3:=h.2 i hi
  rcases h2 i (by rw [h.1];exact hi) with h4 | ⟨j,h4,h5⟩
  · rw [← h4];exact h3
  have:=hd i j _ h3 h4
  subst this
  exact h5⟩
 fd _ a b ha hb _:=fun i hi _=>.inr ⟨i,ha.2 i (by rw [← ha.1];exact hi),hb.2 i (by rw [← ha.1];exact hi)⟩
 mv _ a b ha hb _:=⟨(pj _ _ _).trans hb.1,fun i hi=>by
  rw [b2g (by rw [hb.1];exact hi)]
  split
  · exact ha.2 i hi
  exact hb.2 i hi⟩
def bb1 (N:Nat) (p m:List Fd) (l0:List Rw):Prop:=∀ l,ru l → (∀ r,r ∈ l → LR N p m l0 r) → l.length ≤ 256
end
section
variable {p m:List Fd} {l0 l:List Rw} {n:Int} {σ:Int → Int}
theorem al9 {s:St} (h:y7 l p m s):b6g l p m s:=by
 obtain ⟨h1,h2,h3⟩:=h
 refine ⟨h1,h2,fun e=>?_,fun e=>?_⟩
 · rcases h3 with ⟨_,h,_⟩ | ⟨h,_⟩
   · exact h
   rw [e] at h;cases h
 rcases h3 with ⟨h,_⟩ | ⟨_,h,_⟩
 · rw [e] at h;cases h
 exact h
theorem Ch.code (h0:tok n l0 = true) (hS:bb1 n.toNat p m l0) (hp:p.all (inU n) = true) (hT:tok n l = true) (h:Ch n.toNat p m l0 l σ) {s:St} (hs:y7 l p m s):(ez n l p m s).2.2 = 0:=by
 rcases agv hT hp hs with e | ⟨l',e,_⟩
 · obtain ⟨mu,i,a,b⟩:=s
   obtain ⟨ha,hb,hs | hs⟩:=hs
   · obtain ⟨h1,h2,h3⟩:=hs
     cases h1
     have h4:ez n l p m (false,i,a,b) = fdE n l a b (p.getD i default):=rfl
     have hg:=(am9 hT (List.all_eq_true.1 hp _ (cu h2)) ha hb h3).1
     have hg:fdE n l a b (p.getD i default) = (n,fdL l a b (p.getD i default),0):=hg
     rw [h4,hg] at e ⊢
   obtain ⟨h1,h2,h3⟩:=hs
   cases h1
   have h4:ez n l p m (true,i,a,b) = mvE n l a b (m.getD i default):=rfl
   have h5:gr l (m.getD i default) a b = true:=h3
   unfold gr at h5
   rw [Bool.and_eq_true] at h5
   have h6:mvE n l a b (m.getD i default) = ss n l (fw (l.getD a default) (l.getD b default) ((m.getD i default).lhs ||| (m.getD i default).rhs)):=if_pos h5.1
   have hl0:∀ r,r ∈ l0 → r.length = n.toNat:=fun r hr=>(vg h0 r hr).1
   have h7:=hS (c5 (l ++ [fw (l.getD a default) (l.getD b default) ((m.getD i default).lhs ||| (m.getD i default).rhs)])) (a0w _) fun r hr=>by
    rcases List.mem_append.1 (gc.1 hr) with h8 | h8
    · exact h.rows r h8
    rw [List.mem_singleton.1 h8]
    exact (a5b hl0).mv (cu h2) (h.rows _ (cu ha)) (h.rows _ (cu hb)) (am6 hl0 h5.1)
   rw [h4,h6]
   unfold ss
   rw [if_neg (by omega)]
 rw [e]
def TrZ (n:Int) (p m:List Fd) (lend:List Rw):List Rw → List St → Prop
 | l,[]=>l = lend
 | l,s :: r=>tok n l = true ∧ y7 l p m s ∧ ∃ l',ez n l p m s = (n,l',0) ∧ ¬ l' = l ∧ TrZ n p m lend l' r
end
def stC (n:Int) (ps:List AS) (c:Nat):List Int:=if c < n.toNat then (List.range ps.length).map fun i=>stV n i (ps.getD i default) c else []
section
variable {n:Int} {ps:List AS} {p m:List Fd}
theorem b2c (h0:0 ≤ n) {i c:Nat} {q:AS} (hc:c < n.toNat):stV n i q c % n = (c:Int):=by
 unfold stV
 split
 · exact Int.emod_eq_of_lt (by omega) (by omega)
 have e:n + (i:Int) * n + (c:Int) = (c:Int) + n * (1 + (i:Int)):=by rw [Int.mul_add,Int.mul_one,Int.mul_comm (i:Int) n];omega
 rw [e,Int.add_mul_emod_self_left]
 exact Int.emod_eq_of_lt (by omega) (by omega)
theorem abv (h0:0 ≤ n) {c:Nat} {z:Int} (h:z ∈ stC n ps c):c < n.toNat ∧ z % n = (c:Int):=by
 unfold stC at h
 split at h
 · rename_i hc
   obtain ⟨i,_,rfl⟩:=List.mem_map.1 h
   exact ⟨hc,b2c h0 hc⟩
 simp at h
theorem b3n (h0:0 ≤ n):∀ i j z,z ∈ stC n ps i → z ∈ stC n ps j → i = j:=fun i j z h k=>by
 have h1:=(abv h0 h).2
 have h2:=(abv h0 k).2
 omega
theorem a97 {r:Rw} (hr:r ∈ cj n ps):r.length = n.toNat ∧ ∀ i,i < n.toNat → r.getD i default ∈ stC n ps i:=by
 unfold cj at hr
 obtain ⟨k,hk,rfl⟩:=List.mem_map.1 hr
 refine ⟨aiy _ _ _,fun i hi=>?_⟩
 rw [b4x hi]
 unfold stC
 rw [if_pos hi]
 exact List.mem_map.2 ⟨k,hk,rfl⟩
end
end
section
section
variable {n:Int} {ps:List AS} {p m:List Fd} {l l0:List Rw} {σ:Int → Int}
theorem b6s {N:Nat} {l l':List Rw} (h:∀ r,r ∈ l ↔ r ∈ l') {r:Rw}:LR N p m l r ↔ LR N p m l' r :=
 ⟨fun k E R hm hl=>k E R hm fun r hr=>hl r ((h r).1 hr),fun k E R hm hl=>k E R hm fun r hr=>hl r ((h r).2 hr)⟩
theorem as5 (h0:0 ≤ n) {c:Nat} {z:Int} (h:z ∈ stC n ps c):z = (c:Int) ∨ n ≤ z:=by
 unfold stC at h
 split at h
 · obtain ⟨i,_,rfl⟩:=List.mem_map.1 h
   unfold stV
   split
   · exact .inl rfl
   right
   have:=Int.mul_nonneg (show (0:Int) ≤ (i:Int) by omega) h0
   omega
 simp at h
theorem Ch.first (h0:0 ≤ n) (h:Ch n.toNat p m (c5 (cj n ps)) l σ):(eo n).map σ = eo n:=by
 refine aby fun z hz=>?_
 unfold eo at hz
 obtain ⟨c,hc,rfl⟩:=List.mem_map.1 hz
 have hc:=List.mem_range.1 hc
 have h1:=h.sym (c:Int) _ _ (at9 (stC n ps) (b3n h0)) fun r hr=>a97 (gc.1 hr)
 rcases h1 with h1 | ⟨i,h1,h2⟩
 · exact h1.symm
 have h3:=(abv h0 h1).2
 have h4:=Int.emod_eq_of_lt (a:=(c:Int)) (b:=n) (by omega) (by omega)
 have h5:i = c:=by omega
 subst h5
 have h6:=h.le (i:Int)
 rcases as5 h0 h2 with h7 | h7
 · exact h7
 omega
def swI (n z:Int):Int:=if n ≤ z ∧ z < 2 * n then z + n else if 2 * n ≤ z ∧ z < 3 * n then z - n else z
abbrev bdr (n:Int) (x:Fd):Fd:=⟨x.lhs,aq n &&& ~~~(x.lhs ||| x.rhs)⟩
end
end
section
section
variable {n:Int} {p m:List Fd} {l0 l:List Rw} {σ:Int → Int}
theorem avc (hT:tok n l = true) (hp:p.all (inU n) = true) (hm:m = []) {s:St} (hs:y7 l p m s):(ez n l p m s).2.2 = 0:=by
 obtain ⟨mu,i,a,b⟩:=s
 obtain ⟨ha,hb,hs | hs⟩:=hs
 · obtain ⟨h1,h2,h3⟩:=hs
   cases h1
   have h4:ez n l p m (false,i,a,b) = fdE n l a b (p.getD i default):=rfl
   have hg:fdE n l a b (p.getD i default) = (n,fdL l a b (p.getD i default),0):=(am9 hT (List.all_eq_true.1 hp _ (cu h2)) ha hb h3).1
   rw [h4,hg]
 obtain ⟨_,h2,_⟩:=hs
 subst hm
 exact absurd h2 (Nat.not_lt_zero _)
theorem asa (hl0:∀ r,r ∈ l0 → r.length = n.toNat) (hp:p.all (inU n) = true) (Z:List Int):∀ (F:Nat) (l:List Rw) (acc:List St) (σ:Int → Int),tok n l = true → Ch n.toNat p m l0 l σ → Cov Z l → muC Z l < F →
 (i7 F n l p m acc = ([],(0,[]),3) ∧ ¬ m = []) ∨ ∃ sts lend σ',i7 F n l p m acc = (acc ++ sts,(n,lend),0) ∧ Ch n.toNat p m l0 lend σ' ∧ tok n lend = true ∧ fj lend p m = none ∧ TrZ n p m lend l sts:=by
 intro F
 induction F with
 | zero=>intro _ _ _ _ _ _ h;exact absurd h (Nat.not_lt_zero _)
 | succ F ih =>
  intro l acc σ hT hC hZ hF
  cases hn:fj l p m with
  | none=>exact .inr ⟨[],l,σ,by rw [a9j (by omega) hn,List.append_nil],hC,hT,hn,rfl⟩
  | some s =>
   have hs:=aaj hn
   rcases agv hT hp hs with e | ⟨l',e,hT',h3⟩
   · left
     refine ⟨a9t (by omega) hn e (by decide),fun hm=>?_⟩
     have:=avc hT hp hm hs
     rw [e] at this
     exact absurd this (by decide)
   obtain ⟨h4,h5⟩:=h3 Z hZ
   obtain ⟨_,σ',hC'⟩:=Ch.app hl0 hT hp hC (al9 hs) (by rw [e])
   rw [e] at hC'
   rcases ih l' (acc ++ [s]) σ' hT' hC' h4 (by omega) with ⟨q,q0⟩ | ⟨sts,lend,σ2,q1,q2,q3,q4,q5⟩
   · left
     exact ⟨by rw [y9 (by omega) hn e,Nat.add_sub_cancel,q],q0⟩
   right
   refine ⟨s :: sts,lend,σ2, ?_,q2,q3,q4,hT,hs,l',e,fun e=>?_,q5⟩
   · rw [y9 (by omega) hn e,Nat.add_sub_cancel,q1,List.append_assoc]
     rfl
   subst e
   omega
theorem aqf (hT:tok n l = true) (hb:d9 n p m = 0):(jz FU n l p m = ([],(0,[]),3) ∧ ¬ m = []) ∨ ∃ sts lend σ,jz FU n l p m = (sts,(n,lend),0) ∧ Ch n.toNat p m l lend σ ∧ tok n lend = true ∧ fj lend p m = none ∧ TrZ n p m lend l sts:=by
 have hck:ckE n l p m = 0:=(if_pos hT).trans hb
 rw [a1k hck]
 rcases asa (fun r hr=>(vg hT r hr).1) (m8 hb).2.2.2.1 l.flatten FU l [] id hT Ch.start (agh l) (ap3 hT) with h | ⟨sts,lend,σ',q1,q⟩
 · exact .inl h
 exact .inr ⟨sts,lend,σ',by rw [q1,List.nil_append],q⟩
def trL (n:Int) (p m:List Fd):List Rw → List St → List (List Rw)
 | l,[]=>[l]
 | l,s :: r=>l :: trL n p m (ez n l p m s).2.1 r
theorem zb:∀ {sts:List St} {l:List Rw},(trL n p m l sts).length = sts.length + 1
 | [],_=>rfl
 | s :: r,l=>by unfold trL;rw [List.length_cons,zb,List.length_cons]
theorem ah8:∀ {sts:List St} {l lend:List Rw},TrZ n p m lend l sts → lend ∈ trL n p m l sts
 | [],l,lend,h=>by
  have h:l = lend:=h
  subst h
  simp [trL]
 | s :: r,l,lend,h=>by
  obtain ⟨_,_,l',e,_,h⟩:=h
  unfold trL
  rw [e]
  exact List.mem_cons_of_mem _ (ah8 h)
theorem aq5 (hl0:∀ r,r ∈ l0 → r.length = n.toNat) (hp:p.all (inU n) = true):∀ {sts:List St} {l lend:List Rw} {σ:Int → Int},TrZ n p m lend l sts → tok n lend = true → Ch n.toNat p m l0 l σ → ∀ t,t ∈ trL n p m l sts → ∃ σ,Ch n.toNat p m l0 t σ
 | [],l,lend,σ,h,_,hC,t,ht=>by
  rw [List.mem_singleton.1 (show t ∈ [l] from ht)]
  exact ⟨σ,hC⟩
 | s :: r,l,lend,σ,h,hTe,hC,t,ht=>by
  obtain ⟨hT,hs,l',e,_,h⟩:=h
  unfold trL at ht
  rw [e] at ht
  rcases List.mem_cons.1 ht with rfl | ht
  · exact ⟨σ,hC⟩
  obtain ⟨_,σ',hC'⟩:=Ch.app hl0 hT hp hC (al9 hs) (by rw [e])
  rw [e] at hC'
  exact aq5 hl0 hp h hTe hC' t ht
end
section
variable {n:Int} {ps:List AS} {p m:List Fd}
theorem a9b (h0:0 ≤ n) (h16:n ≤ 16) (hk:ps.length ≤ 64):tok n (c5 (cj n ps)) = true:=by
 refine a33 h0 h16 ?_ fun r hr=>?_
 · have:=ad8 (cj n ps)
   rw [uv] at this
   omega
 obtain ⟨h1,h2⟩:=a97 hr
 refine ⟨h1,fun z hz=>?_⟩
 obtain ⟨i,hi,rfl⟩:=wz hz
 rcases as5 h0 (h2 i (by omega)) with h3 | h3 <;> omega
theorem apq (hk:ps.length ≤ 64) (hb:d9 n p m = 0) :
 (jz FU n (c5 (cj n ps)) p m = ([],(0,[]),3) ∧ ¬ m = []) ∨ ∃ sts lend,jz FU n (c5 (cj n ps)) p m = (sts,(n,lend),0) ∧ (eo n ∈ lend ↔ LR n.toNat p m (cj n ps) (eo n)) ∧
  TrZ n p m lend (c5 (cj n ps)) sts ∧ tok n lend = true ∧ ((∃ t,t ∈ trL n p m (c5 (cj n ps)) sts ∧ eo n ∈ t) ↔ eo n ∈ lend):=by
 obtain ⟨h0,h16,_,hp,_⟩:=m8 hb
 have hT:=a9b h0 h16 hk
 have hl0:∀ r,r ∈ c5 (cj n ps) → r.length = n.toNat:=fun r hr=>(vg hT r hr).1
 rcases aqf hT hb with h | ⟨sts,lend,σ,h1,h2,h3,h4,h5⟩
 · exact .inl h
 right
 have hf:eo n ∈ lend ↔ LR n.toNat p m (c5 (cj n ps)) (eo n):=by
  rw [h2.mem h3 hl0 h4]
  exact ⟨fun h=>h.1,fun h=>⟨h,h2.first h0⟩⟩
 refine ⟨sts,lend,h1,by rw [hf,b6s (l':=cj n ps) fun r=>gc],h5,h3, ?_⟩
 constructor
 · rintro ⟨t,ht,hft⟩
   obtain ⟨σ',hC⟩:=aq5 hl0 hp h5 h3 Ch.start t ht
   exact hf.2 (hC.rows _ hft)
 intro h
 exact ⟨lend,ah8 h5,h⟩
end
end
section
section
variable {n:Int} {l:List Fd}
theorem azy (h:br n l = 0):∀ f ∈ l,sub f.lhs (aq n) ∧ sub f.rhs (aq n):=fun f hf=>by
 obtain ⟨h0,h1,_,h3⟩:=gp h
 exact (qd h0 h1).1 (List.all_eq_true.1 h3 f hf)
theorem aib (h:br n l = 0):pz l (aq n):=fun f hf _=>(azy h f hf).2
theorem ava (h:br n l = 0) {x:AS} (hx:sub x (aq n)):sub (clo l x) (aq n):=a3n (aib h) hx
end
theorem qo {α β:Type} [Inhabited α] {f:α → β} {l:List α} {i:Nat} (h:i < l.length):(l.take (i + 1)).map f = (l.take i).map f ++ [f (l.getD i default)]:=by
 rw [b5 h,List.map_append]
 rfl
structure Dps where
 n:BitVec 8
 l:List Dp
deriving Inhabited
def Dps.num (d:Dps):Int:=((d.n.toNat % 7:Nat):Int)
def Dps.fds (d:Dps):List Fd:=d.l.map (Dp.fd d.num)
def Dps.c (d:Dps):Nat → PV
 | 0=>.raw (.int .u8 (d.n.toNat:Int))
 | 1=>dpl d.l
 | _=>.any
abbrev Dps.pc (d:Dps):PC:=.agg [d.c 0,d.c 1]
end
section
def noA (s:AS) (a:Nat):AS:=s &&& ~~~((1:AS) <<< a)
theorem alh (s:AS) (a:Nat) {b:Int} (h:b.toNat = a):bo .andNot .u32 (asI s) (IntKind.wrap .u32 (1 * 2 ^ (min b.toNat 32))) = asI (noA s a):=by
 rw [h]
 exact a5g s a
def aol (n:Int) (l:List Fd) (s:AS) (a:Nat):AS:=if jo n l (noA s a) = true then noA s a else s
def n8 (n:Int) (l:List Fd) (s:AS) (k:Nat):AS:=(List.range k).foldl (fun s j=>aol n l s (n.toNat - 1 - j)) s
theorem a8j (n:Int) (l:List Fd) (s:AS) (k:Nat):n8 n l s (k + 1) = aol n l (n8 n l s k) (n.toNat - 1 - k):=by
 unfold n8
 rw [List.range_succ,List.foldl_append]
 rfl
theorem aj2 {n:Int} {l:List Fd} {s:AS} {k:Nat} (h:jo n l (noA (n8 n l s k) (n.toNat - 1 - k)) = true):n8 n l s (k + 1) = noA (n8 n l s k) (n.toNat - 1 - k):=by
 rw [a8j];exact if_pos h
theorem ak9 {n:Int} {l:List Fd} {s:AS} {k:Nat} (h:jo n l (noA (n8 n l s k) (n.toNat - 1 - k)) = false):n8 n l s (k + 1) = n8 n l s k:=by
 rw [a8j];exact if_neg (by rw [h];decide)
def rkE (n:Int) (l:List Fd) (s:AS):Int:=if br n l = 0 then (if jo n l s = true then 0 else 1) else br n l
def rkS (n:Int) (l:List Fd) (s:AS):AS:=if rkE n l s = 0 then n8 n l s n.toNat else 0
theorem bbx {n:Int} {l:List Fd} {s:AS} (h:¬ br n l = 0):rkS n l s = 0 ∧ rkE n l s = br n l:=by
 have e:rkE n l s = br n l:=if_neg h
 exact ⟨if_neg (by rw [e];exact h),e⟩
theorem bb4 {n:Int} {l:List Fd} {s:AS} (h:br n l = 0) (h2:jo n l s = false):rkS n l s = 0 ∧ rkE n l s = 1:=by
 have e:rkE n l s = 1:=by unfold rkE;rw [if_pos h,if_neg (by rw [h2];decide)]
 exact ⟨if_neg (by rw [e];decide),e⟩
theorem b4t {n:Int} {l:List Fd} {s:AS} (h:br n l = 0) (h2:jo n l s = true):rkS n l s = n8 n l s n.toNat ∧ rkE n l s = 0:=by
 have e:rkE n l s = 0:=by unfold rkE;rw [if_pos h,if_pos h2]
 exact ⟨if_pos e,e⟩
def b9d (n:Int) (l:List Fd) (s:AS):Bool:=jo n l s && (List.range n.toNat).all fun a=>!(s.getLsbD a && jo n l (noA s a))
def bax (n:Int) (l:List Fd) (i:Nat):List AS:=((List.range i).map (BitVec.ofNat 32)).filter (b9d n l)
def axe (n:Int) (l:List Fd):List AS:=if br n l = 0 then ord (bax n l (2 ^ n.toNat)) else []
end
section
open Go.Proofs
theorem b4k:goodFn Tryz.prog 73:=wgx Tryz.func73
theorem b06 (n:Int) (l:List Fd) (s:AS):af Tryz.prog 73 [pI n,pP (fdl l),pA s] (aj [pA (rkS n l s),pI (rkE n l s)]):=by
 refine a8 (nt:=38) a7 Tryz.func73 rfl rfl l9 ?_;refine dl ?_;refine qcx sd (wo n l) ?_;refine w_7 ?_;refine a6 _ rfl (fun r0=>?_) (fun r0=>?_)
 ·
  have h0:=r0
  have h0:=aa (au h0)
  try simp only [ty] at h0
  refine w_7 ?_;refine ⟨.inr rfl, ?_⟩
  have he:=bbx (s:=s) h0
  exact f9 rfl rfl (⟨cci (congrArg asI he.1.symm),cci he.2.symm,trivial⟩)
 have h0:=r0
 have h0:=ae (ar h0)
 try simp only [ty] at h0
 refine w_7 ?_;refine qcx a9f (adv n l s) ?_;refine w_2 ?_;refine a6 _ rfl (fun r1=>?_) (fun r1=>?_)
 ·
  have h1:=r1
  have h1:=au h1
  refine w_6 ?_;refine ⟨.inr rfl, ?_⟩
  have he:=bb4 h0 (by assumption)
  exact f9 rfl rfl (⟨cci (congrArg asI he.1.symm),cci he.2.symm,trivial⟩)
 have h1:=r1
 have h1:=ar h1
 refine w_3 ?_
 have hv:=gp h0
 refine w_6 ?_
 refine ah (ι:=Nat) ⟨[(0,some _),(1,some _)],[]⟩ ⟨⟨c9,c9,trivial⟩,trivial⟩ (fun k=>⟨[(2,some (vA (n8 n l s k))),(9,some (vI (n - 1 - (k:Int))))],[]⟩) (fun k=>k ≤ n.toNat) (fun k=>n.toNat - k) (0) (Nat.zero_le _) ⟨⟨zy,⟨_,rfl,(coi (by omega))⟩,trivial⟩,trivial⟩ ?_
 rintro k hk
 refine w_6 ?_;refine a6 _ rfl (fun r2=>?_) (fun r2=>?_)
 ·
  have h2:=ae r2
  try simp only [ty] at h2
  refine a6o ?_;refine rc rfl rfl rfl rfl rfl rfl a9f (adv n l (noA (n8 n l s k) (n.toNat - 1 - k))) (⟨CoC.refl _,CoC.refl _,cci (alh _ _ (by omega)),trivial⟩) rfl rfl ?_;refine ax ?_
  refine a6 _ rfl (fun r3=>?_) (fun r3=>?_)
  ·
   have h3:=r3
   refine w_9 ?_
   first | (refine ⟨k + 1, ?_, ?_, ?_⟩
            · show k + 1 ≤ _;omega
            · first | omega | (dsimp only;omega)
            exact ⟨⟨⟨_,rfl,(dz ((alh _ (n.toNat - 1 - k) (by omega)).trans (congrArg asI (aj2 (by assumption)).symm)))⟩,⟨_,rfl,(coi (by omega))⟩,c9,c9,trivial⟩,trivial⟩)
         | (refine ⟨k + 1, ?_, ?_, ?_⟩
            · show k + 1 ≤ _;omega
            · first | omega | (dsimp only;omega)
            exact ⟨⟨⟨_,rfl,(dz (by rw [ak9 (by assumption)]))⟩,⟨_,rfl,(coi (by omega))⟩,c9,c9,trivial⟩,trivial⟩)
  have h3:=r3
  refine w_6 ?_
  first | (refine ⟨k + 1, ?_, ?_, ?_⟩
           · show k + 1 ≤ _;omega
           · first | omega | (dsimp only;omega)
           exact ⟨⟨⟨_,rfl,(dz ((alh _ (n.toNat - 1 - k) (by omega)).trans (congrArg asI (aj2 (by assumption)).symm)))⟩,⟨_,rfl,(coi (by omega))⟩,c9,c9,trivial⟩,trivial⟩)
        | (refine ⟨k + 1, ?_, ?_, ?_⟩
           · show k + 1 ≤ _;omega
           · first | omega | (dsimp only;omega)
           exact ⟨⟨⟨_,rfl,(dz (by rw [ak9 (by assumption)]))⟩,⟨_,rfl,(coi (by omega))⟩,c9,c9,trivial⟩,trivial⟩)
 have h2:=aa r2
 try simp only [ty] at h2
 refine w_8 ?_;refine ⟨.inr rfl, ?_⟩
 have he:=b4t h0 (by assumption)
 obtain rfl:k = n.toNat:=by omega
 exact f9 rfl rfl (⟨cci (congrArg asI he.1.symm),cci he.2.symm,trivial⟩)
end
section
def bC:Bool → Nat → PV:=fun b _=>.raw (.bool b)
def at7 (n:Int) (l:List Fd) (k:Nat):Bool:=decide (clo l (BitVec.ofNat 32 k) = aq n)
def bbu (n:Int) (l:List Fd) (i:Nat):List Bool:=(List.range (2 ^ n.toNat)).map fun k=>decide (k < i) && at7 n l k
def bdm (n:Int) (l:List Fd):List Bool:=bbu n l (2 ^ n.toNat)
end
section
section
variable {n:Int} {l:List Fd}
def okA (n:Int) (l:List Fd) (i a:Nat):Bool:=at7 n l i && (List.range a).all fun b=>!(i.testBit b && at7 n l (i ^^^ 2 ^ b))
section
variable {i a:Nat} (hv:br n l = 0) (hi:i < 2 ^ n.toNat) (ha:(a:Int) < n) (hx:i ^^^ 2 ^ a < 2 ^ n.toNat)
include hv hi ha hx
end
end
end
section
def tf (s:AS):Nat → AS → List AS
 | 0,_=>[]
 | n + 1,x=>if x = 0 then [] else x :: tf s n ((x - 1) &&& s)
def er (s:AS):List AS:=0 :: tf s (s.toNat + 1) s
theorem sub_zero (s:AS):sub 0 s:=ct.2 fun i hi h=>by simp at h
theorem ad1 {s:AS}:∀ (n:Nat) (x:AS),sub x s → x.toNat < n → ∀ z,z ∈ tf s n x ↔ sub z s ∧ z ≠ 0 ∧ z.toNat ≤ x.toNat
 | 0,x,_,h,z=>absurd h (Nat.not_lt_zero _)
 | n + 1,x,hx,h,z=>by
  unfold tf
  by_cases h0:x = 0
  · rw [if_pos h0]
    subst h0
    constructor
    · intro h;cases h
    rintro ⟨_,h1,h2⟩
    exact absurd (BitVec.eq_of_toNat_eq (Nat.le_antisymm h2 (Nat.zero_le _))) h1
  rw [if_neg h0,List.mem_cons,ad1 n _ a12 (by have:=nc (s:=s) h0;omega)]
  constructor
  · rintro (rfl | ⟨h1,h2,h3⟩)
    · exact ⟨hx,h0,Nat.le_refl _⟩
    have:=nc (s:=s) h0
    exact ⟨h1,h2,by omega⟩
  rintro ⟨h1,h2,h3⟩
  by_cases he:z = x
  · exact .inl he
  have hne:z.toNat ≠ x.toNat:=fun e=>he (BitVec.eq_of_toNat_eq e)
  exact .inr ⟨h1,h2,a7n hx h1 (by omega)⟩
theorem xi {s z:AS}:z ∈ er s ↔ sub z s:=by
 unfold er
 rw [List.mem_cons,ad1 _ _ (sub_self s) (Nat.lt_succ_self _)]
 constructor
 · rintro (rfl | h)
   · exact sub_zero s
   exact h.1
 intro h
 by_cases h0:z = 0
 · exact .inl h0
 exact .inr ⟨h,h0,a86 h⟩
def TsI (s:AS) (x:Nat × List AS × AS):Prop:=x.2.1 ++ tf s x.1 x.2.2 = er s ∧ x.2.2.toNat < x.1 ∧ x.2.1.length + x.1 = s.toNat + 2
theorem b19 (s:AS):TsI s (s.toNat + 1,[0],s):=⟨rfl,Nat.lt_succ_self _,by dsimp only;rw [List.length_singleton];omega⟩
theorem b26 {s:AS} {x:Nat × List AS × AS} (h:TsI s x) (h0:x.2.2 ≠ 0):TsI s (x.1 - 1,x.2.1 ++ [x.2.2],(x.2.2 - 1) &&& s):=by
 obtain ⟨h1,h2,h3⟩:=h
 obtain ⟨n,hn⟩:∃ n,x.1 = n + 1:=⟨x.1 - 1,by omega⟩
 have hl:=nc (s:=s) h0
 refine ⟨?_,by dsimp only;omega,by dsimp only;rw [List.length_append,List.length_singleton];omega⟩
 rw [← h1,hn]
 show (x.2.1 ++ [x.2.2]) ++ tf s n _ = _
 rw [List.append_assoc]
 conv=>rhs;unfold tf
 rw [if_neg h0]
 rfl
theorem b5j {s:AS} {x:Nat × List AS × AS} (h:TsI s x) (h0:x.2.2 = 0):x.2.1 = er s:=by
 obtain ⟨h1,h2,h3⟩:=h
 obtain ⟨n,hn⟩:∃ n,x.1 = n + 1:=⟨x.1 - 1,by omega⟩
 rw [← h1,hn]
 unfold tf
 rw [if_pos h0,List.append_nil]
theorem acj (s:AS):(er s).length ≤ 4294967297:=by
 have:∀ n x,(tf s n x).length ≤ n:=by
  intro n
  induction n with
  | zero=>intro x;exact Nat.le_refl _
  | succ n ih =>
   intro x
   unfold tf
   split
   · simp
   rw [List.length_cons];have:=ih ((x - 1) &&& s);omega
 have h1:=this (s.toNat + 1) s
 have:=s.isLt
 unfold er
 rw [List.length_cons]
 omega
theorem b59 {r:AS} (h:r ≠ 0):r &&& (-r) = (1:AS) <<< i6 r:=by
 obtain ⟨h1,h2,h3,h4⟩:=sq h
 have e:-r = ~~~(r - 1):=by
  apply BitVec.eq_of_toNat_eq
  have h0:r.toNat ≠ 0:=fun e=>h (BitVec.eq_of_toNat_eq e)
  have:=r.isLt
  rw [BitVec.toNat_neg,BitVec.toNat_not,a0n h]
  omega
 rw [e]
 apply BitVec.eq_of_getLsbD_eq
 intro i hi
 have h5:=congrArg (fun z:AS=>z.getLsbD i) h4
 simp only [BitVec.getLsbD_and,BitVec.getLsbD_not,decide_eq_true hi,Bool.true_and] at h5
 have h6:((1:AS) <<< i6 r).getLsbD i = decide (i = i6 r):=sv _ i hi
 rw [BitVec.getLsbD_and,BitVec.getLsbD_not,decide_eq_true hi,Bool.true_and,h6]
 rw [h6] at h5
 by_cases hl:i = i6 r
 · subst hl
   rw [h2] at h5 ⊢
   simpa using h5
 rw [decide_eq_false hl] at h5 ⊢
 cases hr:r.getLsbD i <;> rw [hr] at h5 <;> simpa using h5
theorem b9l (r:AS) (h:r ≠ 0) {a:Int} (ha:a = IntKind.wrap .u32 (0 - asI r)):bo .and .u32 (asI r) a = asI ((1:AS) <<< i6 r):=by
 have e:a = asI (-r):=by
  rw [ha]
  have h0:r.toNat ≠ 0:=fun e=>h (BitVec.eq_of_toNat_eq e)
  have:=r.isLt
  unfold asI
  rw [BitVec.toNat_neg]
  simp only [IntKind.wrap,IntKind.signed,IntKind.bits]
  simp
  omega
 rw [e,gl,b59 h]
def nx (l:List Fd) (p s:AS):Bool:=decide (sub p (clo l s))
theorem oc {l:List Fd} {p s:AS}:decide (bo .and .u32 (asI (clo l s)) (asI p) = asI p) = nx l p s:=by
 rw [gl,a8b]
 unfold nx
 refine decide_eq_decide.2 ⟨fun e=>?_,fun e=>?_⟩
 · rw [← e];exact ue
 refine ij a2m (a28 e (jj p))
def a0f (l:List Fd) (p x:AS):Bool:=(List.range 32).all fun a=>!(x.getLsbD a && nx l p (noA x a))
theorem b8c {l:List Fd} {p x:AS} {a:Nat} (ha:a < 32) (h:x.getLsbD a = true) (h2:nx l p (noA x a) = true):a0f l p x = false:=by
 unfold a0f
 rw [List.all_eq_false]
 exact ⟨a,List.mem_range.2 ha,by rw [h,h2];decide⟩
theorem b76 {l:List Fd} {p x:AS} (h2:∀ a,a < 32 → x.getLsbD a = true → nx l p (noA x a) = false):a0f l p x = true:=by
 unfold a0f
 rw [List.all_eq_true]
 intro a ha
 cases hx:x.getLsbD a with
 | false=>rfl
 | true=>rw [h2 a (List.mem_range.1 ha) hx];rfl
def abz (l:List Fd) (p x r:AS):Prop:=sub r x ∧ ∀ a,a < 32 → x.getLsbD a = true → r.getLsbD a = true ∨ nx l p (noA x a) = false
theorem av2 (l:List Fd) (p x:AS):abz l p x x:=⟨jj x,fun a _ h=>.inl h⟩
theorem b3y {l:List Fd} {p x r:AS} (h:abz l p x r) (h0:r ≠ 0):i6 r < 32 ∧ x.getLsbD (i6 r) = true:=by
 obtain ⟨h1,h2,_,_⟩:=sq h0
 exact ⟨h1,ct.1 h.1 _ h1 h2⟩
theorem awx {l:List Fd} {p x r:AS} (h:abz l p x r) (h0:r ≠ 0) (hf:nx l p (noA x (i6 r)) = false):abz l p x (r &&& (r - 1)):=by
 obtain ⟨h1,h2,h3,h4⟩:=sq h0
 rw [h4]
 refine ⟨it ue h.1,fun a ha hx=>?_⟩
 rcases h.2 a ha hx with h5 | h5
 · by_cases hl:a = i6 r
   · subst hl;exact .inr hf
   refine .inl ?_
   have h6:((1:AS) <<< i6 r).getLsbD a = decide (a = i6 r):=sv _ a ha
   rw [BitVec.getLsbD_and,BitVec.getLsbD_not,decide_eq_true ha,Bool.true_and,h5,h6,decide_eq_false hl]
   rfl
 exact .inr h5
theorem b27 {l:List Fd} {p x r:AS} (h:abz l p x r) (h0:r = 0):a0f l p x = true:=b76 fun a ha hx=>by
 rcases h.2 a ha hx with h5 | h5
 · subst h0;simp at h5
 exact h5
theorem b60 {r:AS} (h:r ≠ 0):(r &&& (r - 1)).toNat < r.toNat:=by
 have h1:=a0n h
 have h0:r.toNat ≠ 0:=fun e=>h (BitVec.eq_of_toNat_eq e)
 rw [BitVec.toNat_and,h1]
 have:(r.toNat &&& (r.toNat - 1)) ≤ r.toNat - 1:=Nat.and_le_right
 omega
def w7 (l:List Fd) (p x:AS):Bool:=nx l p x && a0f l p x
def qz (l:List Fd) (p:AS):AS:=orL ((er p).filter (w7 l p))
theorem akj {k:Nat}:∀ {ps:List AS} {s:AS},(ps.foldl (· ||| ·) s).getLsbD k = (s.getLsbD k || ps.any fun x=>x.getLsbD k)
 | [],s=>by simp
 | x :: ps,s=>by
  rw [List.foldl_cons,akj,BitVec.getLsbD_or,List.any_cons,Bool.or_assoc]
def qu (l:List Fd) (p:AS) (i:Nat):AS:=orL (((er p).take i).filter (w7 l p))
theorem ayx (a:List AS) (x:AS):orL (a ++ [x]) = orL a ||| x:=by unfold orL;rw [List.foldl_append];rfl
theorem a6z {l:List Fd} {p:AS} {i:Nat} (hi:i < (er p).length) (h:w7 l p ((er p).getD i default) = true):qu l p (i + 1) = qu l p i ||| (er p).getD i default:=by
 unfold qu
 rw [b5 hi,List.filter_append]
 simp only [List.filter_cons,h,if_true,List.filter_nil]
 exact ayx _ _
theorem sc {l:List Fd} {p:AS} {i:Nat} (hi:i < (er p).length) (h:w7 l p ((er p).getD i default) = false):qu l p (i + 1) = qu l p i:=by
 unfold qu
 rw [b5 hi,List.filter_append]
 simp only [List.filter_cons,h,Bool.false_eq_true,if_false,List.filter_nil,List.append_nil]
theorem amt (l:List Fd) (p:AS):qu l p (er p).length = qz l p:=by unfold qu qz;rw [List.take_length]
theorem afx {l:List Fd} {p x:AS} (h:nx l p x = true) (h2:a0f l p x = true):w7 l p x = true:=by unfold w7;rw [h,h2];rfl
theorem ab7 {l:List Fd} {p x:AS} (h:nx l p x = false):w7 l p x = false:=by unfold w7;rw [h];rfl
theorem aav {l:List Fd} {p x:AS} (h:a0f l p x = false):w7 l p x = false:=by unfold w7;rw [h];simp
end
end Go.Hx

/- A part of the proof: Ls9 Dw6 Dw4 Ds6 Dw7 Dw10 Dw12 Ds12 Y13. -/
import Derived.Test.YtkkenjdfbojdlaaGreatDoorMx39
set_option linter.all false
set_option maxRecDepth 100000
set_option maxHeartbeats 1000000
namespace Go.Hx
section
section
variable {l:List Fd}
def b4h {k:List Fd} (h:∀ f ∈ l,f ∈ k) {f:Fd} (hi:imp l f = true):imp k f = true :=
 decide_eq_true (ak (of_decide_eq_true hi) (ku (fun g hg=>gu g (h g hg)) j9))
def ahh:∀ (f:Nat) (l:List Fd) (i:Nat),l.length - i <= f -> (∀ j,j < i -> j < l.length -> uq l j = false) -> ∀ j,j < (l5 f l i).length -> uq (l5 f l i) j = false
 | 0,l,i,hf,h,j,hj=>h j (by unfold l5 at hj;omega) (by unfold l5 at hj;exact hj)
 | f + 1,l,i,hf,h,j,hj=>by
  unfold l5 at hj ⊢;split at hj
  · rename_i hi
    rw [if_pos hi];split at hj
    · rename_i hr
      rw [if_pos hr];have hol:=lv hi;refine ahh f (dm l i) i bsq (fun a ha hal=>?_) j hj
      cases hq:uq (dm l i) a with
      | false=>rfl
      | true =>
       have hal':a < l.length:=by omega
       have e:(dm l i).getD a default = l.getD a default:=by
        unfold dm;rw [bo7,bq0 (by rw [boi];omega),List.getElem?_take_of_lt ha,<- bo7]
       have h2:=h a ha hal';unfold uq at hq h2;rw [e] at hq;rw [b4h (k:=dm l a) (fun g hg=>?_) hq] at h2
       · cases h2
       unfold dm at hg ⊢;rw [boj] at hg ⊢
       rcases hg with hg | hg
       · rw [List.take_append_of_le_length (by rw [boi];omega),List.take_take,bq4 bsq] at hg
         exact .inl hg
       refine .inr ?_;obtain ⟨k,hk,rfl⟩:=bqq.1 hg;rw [bpy] at hk;rw [brt];by_cases hc:a + 1 + k < i
       · rw [List.getElem_append_left (by rw [boi];omega),List.getElem_take]
         exact brz.2 ⟨k,by omega,by first | rfl | (congr 1;omega) | (congr 1)⟩
       rw [List.getElem_append_right (by rw [boi];omega),brt];have:=boi (i:=i) (l:=l);rw [bob,bpy] at hk;exact brz.2 ⟨k + 1,by omega,by first | (congr 1;omega) | (congr 1) | rfl⟩
    rename_i hr;rw [if_neg hr];refine ahh f l (i + 1) bsq (fun a ha hal=>?_) j hj;by_cases e:a = i
    · subst e;simpa using hr
    exact h a bsq hal
  rename_i hi;rw [if_neg hi];exact h j bsq hj
def amu (l:List Fd):∀ j,j < (nn l).length -> uq (nn l) j = false:=ahh _ _ 0 bsq fun j hj=>absurd hj (bod j)
def a2a (l0:List Fd) (x:Fd) (a:Nat):Prop:=x.lhs.getLsbD a = true -> imp l0 (a5b x a) = false
def am8 {s t:AS} (h:sub s t) (a:Nat):sub (s &&& ~~~((1:AS) <<< a)) (t &&& ~~~((1:AS) <<< a)):=ae.2 fun i hi hb=>by
 rw [boh,boc] at hb ⊢;exact ⟨ae.1 h i hi hb.1,hb.2⟩
variable {a:Nat} {l0:List Fd}
def azi {x y:Fd} (ha:a < 32) (h:a2a l0 x a) (h1:sub y.lhs x.lhs) (h2:y.rhs = x.rhs):a2a l0 y a:=fun hb=>by
 have:=h (ae.1 h1 a ha hb)
 cases hq:imp l0 (a5b y a) with
 | false=>rfl
 | true =>
  have hs:sub y.rhs (clo l0 (y.lhs &&& ~~~((1:AS) <<< a))):=of_decide_eq_true hq
  have:imp l0 (a5b x a) = true:=decide_eq_true (by
   show sub x.rhs (clo l0 (x.lhs &&& ~~~((1:AS) <<< a)));rw [<- h2]
   exact ak hs (jv (am8 h1 a)))
  simp_all
variable {i:Nat}
def bb3 (hi:i < l.length):sub ((fv i l a).getD i default).lhs (l.getD i default).lhs /\ ((fv i l a).getD i default).rhs = (l.getD i default).rhs:=by
 unfold fv;split
 · rw [a29 hi];exact ⟨d6,rfl⟩
 exact ⟨df _,rfl⟩
def ac6:∀ (m:List Nat) (l:List Fd),i < l.length -> sub ((m.foldl (fv i) l).getD i default).lhs (l.getD i default).lhs /\ ((m.foldl (fv i) l).getD i default).rhs = (l.getD i default).rhs
 | [],l,_=>⟨df _,rfl⟩
 | a :: m,l,hi=>by
  have h1:=ac6 m (fv i l a) (by rw [a64];exact hi);have h2:=bb3 (a:=a) hi;exact ⟨ak h1.1 h2.1,h1.2.trans h2.2⟩
def azz (he:Eqv l0 l) (hi:i < l.length) (ha:a < 32):a2a l0 ((fv i l a).getD i default) a:=by
 intro hb
 cases h1:(l.getD i default).lhs.getLsbD a with
 | false =>
  rw [b1c (by rw [cb ha];exact h1),h1] at hb;cases hb
 | true =>
  cases h2:exB l (l.getD i default) a with
  | false =>
   rw [amq h2];unfold exB imp at h2;unfold imp a5b;rw [he.clo];exact h2
  | true =>
   rw [an4 (by rw [cb ha];exact h1) h2,a29 hi] at hb;have hb:((l.getD i default).lhs &&& ~~~((1:AS) <<< a)).getLsbD a = true:=hb;rw [boh,bp7,ey _ _ ha] at hb;simp at hb
def ael:∀ (m:List Nat) (l:List Fd),Eqv l0 l -> i < l.length -> (∀ a ∈ m,a < 32) -> ∀ a ∈ m,a2a l0 ((m.foldl (fv i) l).getD i default) a
 | [],l,_,_,_,a,h=>by cases h
 | b :: m,l,he,hi,h32,a,h=>by
  have hi':i < (fv i l b).length:=by rw [a64];exact hi
  rcases bok.1 h with rfl | h
  · have hs:=ac6 m (fv i l a) hi'
    exact azi (h32 a bp9) (azz he hi (h32 a bp9)) hs.1 hs.2
  exact ael m _ (he.trans aoq) hi' (fun c hc=>h32 c (bpg _ hc)) a h
def axe (he:Eqv l0 l) (hi:i < l.length):∀ a,a < 32 -> a2a l0 ((a4y l i).getD i default) a:=fun a ha hb=>by
 have hs:=ac6 (al (l.getD i default).lhs) l hi;have hm:a ∈ al (l.getD i default).lhs:=gi.2 ⟨ha,ae.1 hs.1 a ha hb⟩;exact ael _ l he hi (fun c hc=>(gi.1 hc).1) a hm hb
def ab3 {j:Nat} (hne:j ≠ i):∀ (m:List Nat) (l:List Fd),(m.foldl (fv i) l).getD j default = l.getD j default
 | [],l=>rfl
 | a :: m,l=>by
  rw [bq6,ab3 hne m];unfold fv;split
  · rw [bo7,List.getElem?_set_ne bsq,<- bo7]
  rfl
def aiu (he:Eqv l0 l):∀ i,i <= l.length -> ∀ j,j < i -> ∀ a,a < 32 -> a2a l0 ((jx l i).getD j default) a
 | 0,_,j,hj,_,_=>absurd hj (bod j)
 | i + 1,hi,j,hj,a,ha=>by
  rw [vw];by_cases e:j = i
  · subst e
    exact axe (he.trans (abu l j)) (by rw [ny];omega) a ha
  unfold a4y;rw [ab3 e];exact aiu he i bsq j bsq a ha
def aci {f:Fd} (hf:f ∈ nn l) (ha:a < 32):a2a l f a:=by
 have h1:=lz.1 (vf _ _ _ hf);obtain ⟨j,hj,rfl⟩:=bou h1;have hj':=hj;rw [ny] at hj';have:=aiu (l0:=l) (l:=spl l) ((aiz l).trans (agn fun f=>lz.symm)) (spl l).length (bo9 _) j hj' a ha;rwa [bo7,bo6 hj,bp0] at this
def a6c (l:List Fd):Prop:=∀ f ∈ l,∃ k:Nat,f.rhs = (1:AS) <<< k
def b15 (l:List Fd):a6c (gt l):=fun g hg=>by
 unfold gt at hg;obtain ⟨ys,hys,hxy⟩:=bs7.1 hg;obtain ⟨f,hf,rfl⟩:=boo.1 hys;unfold qh at hxy;obtain ⟨a,ha,rfl⟩:=boo.1 hxy;exact ⟨a,rfl⟩
def b49 (h:a6c l):a6c (fv i l a):=by
 unfold fv;split
 · intro x hx
   rcases brx hx with hx | rfl
   · exact h x hx
   by_cases hi:i < l.length
   · exact h (l.getD i default) (by rw [bo7,bo6 hi];exact bp3 hi)
   rw [br1 bsq] at hx;exact h _ hx
 exact h
def aip:∀ (m:List Nat) (l:List Fd),a6c l -> a6c (m.foldl (fv i) l)
 | [],_,h=>h
 | a :: m,l,h=>aip m _ (b49 h)
def aor (h:a6c l):∀ i,a6c (jx l i)
 | 0=>h
 | i + 1=>by rw [vw];exact aip _ _ (aor h i)
def ag3 (l:List Fd):a6c (nn l):=fun f hf =>
 aor (fun g hg=>b15 l g (lz.1 hg)) _ f (lz.1 (vf _ _ _ hf))
def aj6:∀ (k:List Fd) (s:AS),(k.foldl (fun a f=>a ||| f.rhs) s).getLsbD i = true -> s.getLsbD i = true \/ ∃ f ∈ k,f.rhs.getLsbD i = true
 | [],s,h=>.inl h
 | f :: k,s,h=>by
  rcases aj6 k _ h with h | ⟨g,hg,hb⟩
  · rw [bpj,bph] at h
    rcases h with h | h
    · exact .inl h
    exact .inr ⟨f,bp9,h⟩
  exact .inr ⟨g,bpg _ hg,hb⟩
def apj {k:List Fd} {s:AS} (h:(mgR k s).getLsbD i = true):∃ f ∈ k,f.lhs = s /\ f.rhs.getLsbD i = true:=by
 unfold mgR at h
 rcases aj6 _ _ h with h | ⟨f,hf,hb⟩
 · simp at h
 rw [bpq,decide_eq_true_eq] at hf;exact ⟨f,hf.1,hf.2,hb⟩
def an5 {p:AS} (h:∀ x,sub x p -> kp l p x = false -> ∀ i,i < 32 -> (clo l x).getLsbD i = true -> p.getLsbD i = true -> x.getLsbD i = false -> (lg l p).getLsbD i = true):jc l p = true:=by
 unfold jc;rw [boz,bpw];intro x hx hb;unfold p9 at hb;rw [boc,decide_eq_true_eq,boz] at hb;refine hb.2 (ae.2 fun i hi hbit=>?_:sub ((clo l x &&& p) &&& ~~~x) (lg l p));rw [boh,boh,bp7,boc,boc,boc,boz] at hbit;exact h x (ru.1 hx) hb.1 i hi hbit.1.1 hbit.1.2 hbit.2.2
def ayj {p x:AS} (hx:sub x p) (hk:zo l p x = true):sub x (lg l p):=ae.2 fun i hi hb=>by
 unfold lg orL;rw [a0r,bph];exact .inr (bp4.2 ⟨x,bpq.2 ⟨ru.2 hx,hk⟩,hb⟩)
def aw1 {j m:Nat} (hm:m < l.length) (hne:m ≠ j):l[m] ∈ dm l j:=by
 unfold dm;rw [boj];by_cases h2:m < j
 · exact .inl (List.mem_take_iff_getElem.2 ⟨m,by omega,rfl⟩)
 exact .inr (brz.2 ⟨m - (j + 1),by omega,by congr 1;omega⟩)
def aqx {M:List Fd} (sh:∀ s,clo M s = clo l s) (aci:∀ {f:Fd},f ∈ M -> ∀ {a:Nat},a < 32 -> a2a l f a) (ag3:a6c M) (amu:∀ j,j < M.length -> uq M j = false) {X:AS} (hX:∃ f ∈ M,f.lhs = X):jc l (X ||| mgR M X) = true:=by
 obtain ⟨f0,hf0,rfl⟩:=hX
 have hY:sub (mgR M f0.lhs) (clo l f0.lhs):=ae.2 fun i hi hb=>by
  obtain ⟨g,hg,he,hgb⟩:=apj hb;have:=gu (l:=M) (s:=f0.lhs) g hg (by rw [he];exact j9);rw [sh] at this;exact ae.1 this i hi hgb
 have hsup:kp l (f0.lhs ||| mgR M f0.lhs) f0.lhs = true:=decide_eq_true (sc j9 hY)
 have hmin:zk l (f0.lhs ||| mgR M f0.lhs) f0.lhs = true:=axd fun a ha hb=>by
  cases hq:kp l (f0.lhs ||| mgR M f0.lhs) (noA f0.lhs a) with
  | false=>rfl
  | true =>
   have h1:=aci hf0 ha hb;have h2:sub (f0.lhs ||| mgR M f0.lhs) (clo l (noA f0.lhs a)):=of_decide_eq_true hq;have h4:sub f0.rhs (mgR M f0.lhs):=ahn hf0 rfl;have h5:sub f0.rhs (clo l (noA f0.lhs a)):=ak (ak h4 pn) h2
   have h3:imp l (a5b f0 a) = true:=by
    unfold noA at h5;unfold imp a5b;exact decide_eq_true h5
   rw [h3] at h1;cases h1
 have hpr:=ayj o5 (a7e hsup hmin);refine an5 fun x hx hns i hi hc hp hnx=>?_;rw [bpj,bph] at hp
 rcases hp with hp | hp
 · exact ae.1 hpr i hi hp
 exfalso;obtain ⟨f,hf,hfl,hfb⟩:=apj hp;obtain ⟨j,hj,rfl⟩:=bou hf;have hgd:M.getD j default = M[j]:=by rw [bo7,bo6 hj,bp0]
 obtain ⟨k,hk⟩:=ag3 _ hf
 have hnX:¬ sub f0.lhs (clo l x):=fun e=>by
  have:kp l (f0.lhs ||| mgR M f0.lhs) x = true:=decide_eq_true (ak (of_decide_eq_true hsup) (by
   have:=jv (l:=l) e
   rwa [acy] at this))
  rw [this] at hns;cases hns
 have hot:∀ g ∈ M,g ≠ M[j] -> g ∈ dm M j:=fun g hg hne=>by
  obtain ⟨m,hm,rfl⟩:=bou hg;exact aw1 hm fun e=>hne (by subst e;rfl)
 have hle:∀ s,sub (clo (dm M j) s) (clo l s):=fun s=>by
  rw [<- sh];exact ku (fun g hg=>gu g (a2t hg)) j9
 have hcx:sub (clo l x) (clo (dm M j) x):=by
  rw [<- sh];refine ku (fun g hg hgs=>?_) j9;by_cases e:g = M[j]
  · subst e
    rw [hfl] at hgs;exact absurd (ak hgs (hle x)) hnX
  exact gu g (hot g hg e) hgs
 have hxX:sub x (clo (dm M j) f0.lhs):=ae.2 fun c hc' hcb=>by
  have:=ae.1 hx c hc' hcb;rw [bpj,bph] at this
  rcases this with h | h
  · exact ae.1 j9 c hc' h
  obtain ⟨g,hg,hgl,hgb⟩:=apj h
  have hne:g ≠ M[j]:=fun e=>by
   subst e;rw [hk,ey _ _ hc',decide_eq_true_eq] at hgb;rw [hk,ey _ _ hi,decide_eq_true_eq] at hfb;rw [hgb,<- hfb,hnx] at hcb;cases hcb
  exact ae.1 (gu g (hot g hg hne) (by rw [hgl];exact j9)) c hc' hgb
 have hB:(clo (dm M j) f0.lhs).getLsbD i = true:=by
  have h1:=ae.1 hcx i hi hc;have h2:=jv (l:=dm M j) hxX;rw [acy] at h2;exact ae.1 h2 i hi h1
 have hr:=amu j hj;unfold uq at hr;rw [hgd] at hr
 have:imp (dm M j) M[j] = true:=decide_eq_true (ae.2 fun c hc' hcb=>by
  rw [hk,ey _ _ hc',decide_eq_true_eq] at hcb;rw [hk,ey _ _ hi,decide_eq_true_eq] at hfb;rw [hfl,hcb,<- hfb]
  exact hB)
 rw [this] at hr;cases hr
def aw3 {X:AS} (hX:∃ f ∈ nn l,f.lhs = X):jc l (X ||| mgR (nn l) X) = true :=
 aqx (sh l) (fun hf _ ha=>aci hf ha) (ag3 l) (amu l) hX
end
section
variable {n:Int} {l:List Fd}
def azs (h:au n l = 0) {s t:AS} (hs:f5 n l s = true) (hst:sub s t) (ht:sub t (a6 n)):f5 n l t = true:=by
 obtain ⟨_,h2,h3⟩:=of_decide_eq_true hs;exact decide_eq_true ⟨h,ht,br (ut h ht) (by rw [<- h3];exact jv hst)⟩
def a8n (s:AS):∀ k,sub (iz n l s k) s
 | 0=>df s
 | k + 1=>by
  rw [t6];unfold a4q;split
  · exact ak d6 (a8n s k)
  exact a8n s k
def a00 (s:AS):∀ d k,sub (iz n l s (k + d)) (iz n l s k)
 | 0,k=>df _
 | d + 1,k=>by
  rw [<- bqe,t6];unfold a4q;split
  · exact ak d6 (a00 s d k)
  exact a00 s d k
def axp (h:au n l = 0) {a:Nat} (ha:a < n.toNat) (ha2:a < 32) (hb:(iz n l (a6 n) n.toNat).getLsbD a = true):f5 n l (noA (iz n l (a6 n) n.toNat) a) = false:=by
 cases hq:f5 n l (noA (iz n l (a6 n) n.toNat) a) with
 | false=>rfl
 | true =>
  exfalso;have e:n.toNat = (n.toNat - 1 - a) + 1 + a:=by omega
  have h1:sub (iz n l (a6 n) n.toNat) (iz n l (a6 n) (n.toNat - 1 - a + 1)):=by
   have:=a00 (n:=n) (l:=l) (a6 n) a (n.toNat - 1 - a + 1);rwa [<- e] at this
  have h2:=ae.1 h1 a ha2 hb
  have h3:sub (iz n l (a6 n) n.toNat) (iz n l (a6 n) (n.toNat - 1 - a)):=by
   have:=a00 (n:=n) (l:=l) (a6 n) (a + 1) (n.toNat - 1 - a);rwa [show n.toNat - 1 - a + (a + 1) = n.toNat by omega] at this
  rw [t6,show n.toNat - 1 - (n.toNat - 1 - a) = a by omega] at h2;unfold a4q at h2;have hk:f5 n l (noA (iz n l (a6 n) (n.toNat - 1 - a)) a) = true:=azs h hq (am8 h3 a) (ak d6 (a8n _ _));rw [if_pos hk] at h2;unfold noA at h2;rw [boh,bp7,ey _ _ ha2] at h2;simp at h2
def ay2 (h:au n l = 0):jc l (rkS n l (a6 n)) = true:=by
 have hr:=(aup h (a2d h)).1;have hk:=ai1 h;obtain ⟨_,h2,h3⟩:=of_decide_eq_true hk;obtain ⟨h0,h1,_,_⟩:=f8 h;refine an5 fun x hx hns i hi hc hp hnx=>?_;exfalso
 have hin:i < n.toNat:=by
  have:=ae.1 h2 i hi hp;unfold a6 at this;rw [ly _ _ hi,decide_eq_true_eq] at this;omega
 have hm:f5 n l (noA (rkS n l (a6 n)) i) = false:=by rw [hr] at hp ⊢;exact axp h hin hi hp
 have hxn:sub x (noA (rkS n l (a6 n)) i):=ae.2 fun c hc' hcb=>by
  unfold noA;rw [boh,bp7,ey _ _ hc',ae.1 hx c hc' hcb,decide_eq_true hc'];have:c ≠ i:=fun e=>by rw [e,hnx] at hcb;cases hcb
  simp [this]
 have hKc:sub (rkS n l (a6 n)) (clo l (noA (rkS n l (a6 n)) i)):=ae.2 fun c hc' hcb=>by
  by_cases e:c = i
  · subst e;exact ae.1 (jv hxn) c hc' hc
  refine ae.1 j9 c hc' ?_;unfold noA;rw [boh,bp7,ey _ _ hc',hcb,decide_eq_true hc'];simp [e]
 have hkn:f5 n l (noA (rkS n l (a6 n)) i) = true:=decide_eq_true ⟨h,ak d6 h2,br (ut h (ak d6 h2)) (by
  have:=jv (l:=l) hKc
  rwa [acy,h3] at this)⟩
 rw [hkn] at hm;cases hm
def avw (h:au n l = 0):∀ x ∈ ou n l,jc l x = true:=fun x hx=>by
 have hp:∀ x ∈ xe n l,jc l x = true:=fun x hx=>by
  unfold xe at hx;obtain ⟨g,hg,rfl⟩:=boo.1 hx;unfold ic a1q at hg;rw [a1h h] at hg;obtain ⟨s,hs,rfl⟩:=boo.1 hg;obtain ⟨f,hf,rfl⟩:=boo.1 (gn.1 hs);exact aw3 ⟨f,hf,rfl⟩
 unfold ou at hx;split at hx
 · exact hp x hx
 rw [boj,bom] at hx
 rcases hx with hx | rfl
 · exact hp x hx
 exact ay2 h
def avx (h:au n l = 0):∀ x ∈ oz n l,jc l x = true:=fun x hx=>by
 rw [a3v h] at hx;exact avw h x (uz.1 (show x ∈ ef (ou n l) from hx)).1
end
end
section
open Go.Proofs
def b7w (n:Int) (l m:List Fd) (p:AS):a7 btb 104 [.agg [.raw (.int .i64 n),fdl l,fdl m],pA p] (aa [pB (thB n l p)]):=by
 refine hpx (nt:=21) Tryz.func104 ?_;refine sx7 ?_;refine m9 0 ?_;refine w_9 ?_;refine qcx (wgx Tryz.func156) (be2 n l p) ?_;refine d5 ?_;refine ai rfl rfl (fun r0=>?_) (fun r0=>?_)
 ·
  have h0:=r0;(iterate 2 refine qy ?_ (hg:=(gtt r0)));refine w_3 ?_
  exact hx8 rfl rfl rfl (⟨ccb (by unfold thB;first | rfl | simp_all),trivial⟩)
 have h0:=r0;(iterate 2 refine k9 (gft r0) ?_);refine w_3 ?_
 exact hx8 rfl rfl rfl (⟨ccb (by unfold thB;first | rfl | simp_all),trivial⟩)
def bdw (n:Int) (l m:List Fd) (p:AS):a7 btb 105 [.agg [.raw (.int .i64 n),fdl l,fdl m],pA p] (aa [pB (byB l p)]):=by
 refine hpx (nt:=22) Tryz.func105 ?_;refine sx7 ?_;refine m9 0 ?_;refine w_7 ?_;refine qcx (wgx Tryz.func157) (bmd l p) ?_;refine w_4 ?_;refine m9 1 ?_;refine w_9 ?_;refine ai rfl rfl (fun r0=>?_) (fun r0=>?_)
 ·
  have h0:=ci r0;(iterate 2 refine qy ?_ (hg:=(gtt r0)));refine w_3 ?_
  exact hx8 rfl rfl rfl (⟨ccb (by unfold byB;first | rfl | simp_all),trivial⟩)
 have h0:=cj r0;(iterate 2 refine k9 (gft r0) ?_);refine w_3 ?_
 exact hx8 rfl rfl rfl (⟨ccb (by unfold byB;first | rfl | simp_all),trivial⟩)
def b53 (n:Int) (l m:List Fd) (p:AS):a7 btb 106 [.agg [.raw (.int .i64 n),fdl l,fdl m],pA p] (aa [pB (foB n l m p)]):=by
 refine hpx (nt:=26) Tryz.func106 ?_;refine sx7 ?_;refine m9 0 ?_;refine dl ?_;refine qcx (wgx Tryz.func80) (b6v n l m p) ?_;refine w_4 ?_;refine m9 1 ?_;refine w_9 ?_;refine ai rfl rfl (fun r0=>?_) (fun r0=>?_)
 ·
  have h0:=ci r0;(iterate 2 refine qy ?_ (hg:=(gtt r0)));refine w_3 ?_
  exact hx8 rfl rfl rfl (⟨ccb (by unfold foB;first | rfl | simp_all),trivial⟩)
 have h0:=cj r0;(iterate 2 refine k9 (gft r0) ?_);refine w_3 ?_
 exact hx8 rfl rfl rfl (⟨ccb (by unfold foB;first | rfl | simp_all),trivial⟩)
def bad (p:AS) (g k:Nat) (fr:Nat -> PV) (V:AS -> Bool) (hg:goodFn btb g) (hV:∀ p,a7 btb g [.agg (pvN fr k 0),pA p] (aa [pB (V p)])):a7 btb 155 [pA p,pP (bx (.bnd g k fr))] (aa [pB (!V p)]):=by
 refine hpx (nt:=8) Tryz.func155 ?_;refine w_8 ?_;refine rc rfl rfl rfl rfl rfl rfl hg (hV p) (CoL.refl _) rfl rfl ?_;refine v_3 ?_;exact CoL.refl _
def bdr {ps:List AS} {V:AS -> Bool}:(!ps.any fun p=>!V p) = ps.all V:=by rw [<- List.not_all_eq_any_not,Bool.not_not]
def ahu:goodFn btb 103:=wgx Tryz.func103
def akw (ps:List AS) (g k:Nat) (fr:Nat -> PV) (V:AS -> Bool) (hg:goodFn btb g) (hV:∀ p,a7 btb g [.agg (pvN fr k 0),pA p] (aa [pB (V p)])):a7 btb 103 [pP (asl ps),pP (.bnd g k fr)] (aa [pB (ps.all V)]):=by
 refine hpx (nt:=9) Tryz.func103 ?_;refine sx7 ?_;refine m9 0 ?_;refine w_3 ?_;refine dc 3 rfl rfl rfl ?_;refine w_3 ?_;refine qcx agj (awf ps 155 1 (fun i=>[bx (.bnd g k fr)].getD i .any) (fun p=>!V p) (wgx Tryz.func155) (fun p=>bad p g k fr V hg hV)) ?_;refine v_3 ?_;exact ⟨ccb bdr,trivial⟩
def b6y (n:Int) (l m:List Fd) (ps:List AS) (hl:l.length <= 16777216):a7 btb 46 [.agg [.raw (.int .i64 n),fdl l,fdl m],pP (asl ps)] (aa [pI (oc n l m ps)]):=by
 refine hpx (nt:=31) Tryz.func46 ?_;refine sx7 ?_;refine m9 0 ?_;refine w_6 ?_;refine nc (ka 1 (ka 2 kn)) (kb 0 km) ⟨[(5,some (vI (jw (ij l ps) false false false)))],[]⟩ ?_ ?_
 ·
  refine w_5 ?_;refine qcx ap4 (b60 l ps hl) ?_;refine cu ?_;refine hcb (fun h0=>?_) (fun h0=>?_)
  · have hA:=h0;refine w_5 ?_;exact ⟨⟨⟨_,rfl,(coi (by first | exact axk hA | (rw [hA];done) | (rw [hA];rfl)))⟩,tt⟩,uu⟩
  have hA:=h0;refine dp ?_;exact ⟨⟨⟨_,rfl,(coi (by first | exact axk hA | (rw [hA];done) | (rw [hA];rfl)))⟩,tt⟩,uu⟩
 refine nc (ka 1 (ka 2 kn)) (kb 0 km) ⟨[(5,some (vI (jw (ij l ps) (ps.all (thB n l)) false false)))],[]⟩ ?_ ?_
 ·
  refine w_5 ?_;refine qcx ahu (akw ps 104 3 (fun i=>([PV.raw (.int .i64 n),fdl l,fdl m]:List PV).getD i .any) (thB n l) (wgx Tryz.func104) (fun p=>b7w n l m p)) ?_;refine cu ?_;refine hcb (fun h1=>?_) (fun h1=>?_)
  · have hB:=h1;refine w_5 ?_;exact ⟨⟨⟨_,rfl,(coi (by first | exact axx hB | (rw [hB];done) | (rw [hB];rfl)))⟩,tt⟩,uu⟩
  have hB:=h1;refine dp ?_;exact ⟨⟨⟨_,rfl,(coi (by first | exact axx hB | (rw [hB];done) | (rw [hB];rfl)))⟩,tt⟩,uu⟩
 refine nc (ka 1 (ka 2 kn)) (kb 0 km) ⟨[(5,some (vI (jw (ij l ps) (ps.all (thB n l)) (ps.all (byB l)) false)))],[]⟩ ?_ ?_
 ·
  refine w_5 ?_;refine qcx ahu (akw ps 105 3 (fun i=>([PV.raw (.int .i64 n),fdl l,fdl m]:List PV).getD i .any) (byB l) (wgx Tryz.func105) (fun p=>bdw n l m p)) ?_;refine cu ?_;refine hcb (fun h2=>?_) (fun h2=>?_)
  · have hC:=h2;refine w_5 ?_;exact ⟨⟨⟨_,rfl,(coi (by first | exact azh hC | (rw [hC];done) | (rw [hC];rfl)))⟩,tt⟩,uu⟩
  have hC:=h2;refine dp ?_;exact ⟨⟨⟨_,rfl,(coi (by first | exact azh hC | (rw [hC];done) | (rw [hC];rfl)))⟩,tt⟩,uu⟩
 refine nc kn km ⟨[(5,some (vI (jw (ij l ps) (ps.all (thB n l)) (ps.all (byB l)) (ps.all (foB n l m)))))],[]⟩ ?_ ?_
 ·
  refine w_5 ?_;refine qcx ahu (akw ps 106 3 (fun i=>([PV.raw (.int .i64 n),fdl l,fdl m]:List PV).getD i .any) (foB n l m) (wgx Tryz.func106) (fun p=>b53 n l m p)) ?_;refine cu ?_;refine hcb (fun h3=>?_) (fun h3=>?_)
  · have hD:=h3;refine w_5 ?_;exact ⟨⟨⟨_,rfl,(coi (by first | exact az6 hD | (rw [hD];done) | (rw [hD];rfl)))⟩,trivial⟩,trivial⟩
  have hD:=h3;refine dp ?_;exact ⟨⟨⟨_,rfl,(coi (by first | exact az6 hD | (rw [hD];done) | (rw [hD];rfl)))⟩,trivial⟩,trivial⟩
 refine v_5 ?_;exact CoL.refl _
def bd4 (n:Int) (l m:List Fd) (ps:List AS):a7 btb 18 [pI n,pP (fdl l),pP (fdl m),pP (asl ps)] (aa [pI (ld n l m ps),pI (lsC n ps l m)]):=by
 refine hpx (nt:=34) Tryz.func18 ?_;refine dl ?_;refine qcx (wgx Tryz.func45) (bl8 n ps l m) ?_;refine i6 ?_;refine hcn (fun h0=>?_) (fun h0=>?_)
 · have hr:=bj5 (l:=l) (m:=m) (ps:=ps) (n:=n) h0;refine v_6 ?_;exact ⟨cci hr.symm,CoC.refl _,trivial⟩
 have hls:lsC n ps l m = 0:=by assumption
 have hl:l.length <= 16777216:=by have:=(m7 (lh hls).2).2.2.1;omega
 refine w_8 ?_;refine qcx (wgx Tryz.func46) (b6y n l m ps hl) ?_;refine w_2 ?_;refine nc kn km ⟨[(12,some (vI (ld n l m ps)))],[]⟩ ?_ ?_
 ·
  refine w_4 ?_;refine hcb (fun h1=>?_) (fun h1=>?_)
  · have hr:=bix hls h1;refine w_5 ?_;exact ⟨⟨⟨_,rfl,(coi hr.symm)⟩,trivial⟩,trivial⟩
  have hr:=bks hls h1;refine dp ?_;exact ⟨⟨⟨_,rfl,(coi hr.symm)⟩,trivial⟩,trivial⟩
 refine v_6 ?_;exact ⟨CoC.refl _,cci hls.symm,trivial⟩
def b68 (n:Int) (l m:List Fd) (ps:List AS):a7 btb 35 [pI n,pP (fdl l),pP (fdl m),pP (asl ps)] (aa [dsn (fuD n l m ps),pI (lsC n ps l m)]):=by
 refine hpx (nt:=45) Tryz.func35 ?_;refine sx7 ?_;refine m9 0 ?_;refine w_8 ?_;refine qcx (wgx Tryz.func18) (bd4 n l m ps) ?_;refine i6 ?_;refine hcn (fun h0=>?_) (fun h0=>?_)
 · have hr:=bmb (l:=l) (m:=m) (ps:=ps) (n:=n) h0;refine v_7 ?_;exact by rw [hr];exact ⟨CoC.agg ⟨coN,CoP.refl _,coN,trivial⟩,CoC.refl _,trivial⟩
 have hls:lsC n ps l m = 0:=by assumption
 have hodd:=ass hls;refine w_6 ?_;refine m9 1 ?_;refine w_9 ?_;refine hcn (fun h1=>?_) (fun h1=>?_)
 ·
  have hb:lsB n ps l m = true:=by
   cases hq:lsB n ps l m with
   | true=>rfl
   | false=>rw [hq] at hodd;exact absurd (a2v hodd) h1
  have hp0:=bj3 hls hb;have hr:=blq hls hb;refine w_6 ?_;refine qcx (wgx Tryz.func81) (bc8 n ps l m) ?_;refine i6 ?_;refine hcn (fun h2=>?_) (fun h2=>?_)
  · exfalso;exact h2 hp0
  refine v_7 ?_;exact by rw [hr,hls];first | exact CoL.refl _ | exact ⟨CoC.agg ⟨CoP.refl _,CoP.refl _,coN,trivial⟩,CoC.refl _,trivial⟩
 have hb:lsB n ps l m = false:=by
  cases hq:lsB n ps l m with
  | false=>rfl
  | true=>rw [hq] at hodd;have hx:=a4x hodd;simp_all
 have hr:=bme hls hb;refine v_7 ?_;exact by rw [hr,hls];first | exact CoL.refl _ | exact ⟨CoC.agg ⟨CoP.refl _,CoP.refl _,coN,trivial⟩,CoC.refl _,trivial⟩
def bhn (n:Int) (l m:List Fd):a7 btb 31 [pI n,pP (fdl l),pP (fdl m)] (aa [pI (mq n l m)]):=by
 refine hpx (nt:=17) Tryz.func31 ?_;refine d5 ?_;refine ai rfl rfl (fun r0=>?_) (fun r0=>?_)
 ·
  have h0:=tz1 r0;have hk:=b6r (l:=l) (m:=m) (n:=n) (.inl h0);(iterate 2 refine k9 (gtf r0) ?_);refine w_7 ?_
  exact hx8 rfl rfl rfl (⟨cci hk.symm,trivial⟩)
 have h0:=tz2 r0;(iterate 2 refine qy ?_ (hg:=(gff r0)));refine w_2 ?_;refine am _ rfl (fun r1=>?_) (fun r1=>?_)
 · have h1:=tz1 (aq r0 r1);have hk:=b6r (l:=l) (m:=m) (n:=n) (.inr h1);refine v_4 ?_;exact ⟨cci hk.symm,trivial⟩
 have h1:=tz2 (aq r0 r1);have hk:mq n l m = be n l m:=b7p bsq;refine w_6 ?_;refine qcx zc (vu n l m) ?_;refine v_2 ?_;exact ⟨cci hk.symm,trivial⟩
def ana:goodFn btb 12:=wgx Tryz.func12
def ad9 (n:Int) (l m:List Fd) (f:Int):a7 btb 12 [pI n,pP (fdl l),pP (fdl m),pI f] (aa [dsn (goD n l m (im n l m f)),pI (goE n l m (im n l m f))]):=by
 refine hpx (nt:=58) Tryz.func12 ?_;refine sx7 ?_;refine m9 0 ?_;refine w_8 ?_;refine qcx (wgx Tryz.func31) (bhn n l m) ?_;refine w_7 ?_;refine hcn (fun h0=>?_) (fun h0=>?_)
 · have hr:=bfq (q:=im n l m f) h0;refine v_7 ?_;exact by rw [hr.1,hr.2];exact ⟨CoC.agg ⟨coN,CoP.refl _,coN,trivial⟩,CoC.refl _,trivial⟩
 have hk:mq n l m = 0:=by assumption
 refine w_9 ?_;refine nc (ka 0 (ka 1 (ka 2 (ka 8 kn)))) (kb 0 km) ⟨[(11,some (.v (.one (.p (asl (im n l m f).1))))),(12,some (vI (im n l m f).2))],[]⟩ ?_ ?_
 ·
  refine d5 ?_;refine hcd (fun h1=>?_) (fun h1=>?_)
  · have hf3:f = 3:=h1;have hpp:=bh5 (n:=n) (l:=l) (m:=m) hf3;refine w_3 ?_;refine qcx (wgx Tryz.func32) (ata axw n l) ?_;refine w_6 ?_;exact ⟨⟨⟨_,rfl,(by rw [hpp];first | exact CoR.refl _ | exact coN)⟩,⟨_,rfl,(by rw [hpp];exact CoR.refl _)⟩,tt⟩,uu⟩
  have hf3:¬ f = 3:=h1;refine w_5 ?_;refine hcd (fun h2=>?_) (fun h2=>?_)
  · have hf4:f = 4:=h2;have hpp:=bhg (n:=n) (l:=l) (m:=m) hf3 hf4;refine w_3 ?_;refine qcx (wgx Tryz.func33) (blz n l) ?_;refine w_6 ?_;exact ⟨⟨⟨_,rfl,(by rw [hpp];first | exact CoR.refl _ | exact coN)⟩,⟨_,rfl,(by rw [hpp];exact CoR.refl _)⟩,tt⟩,uu⟩
  have hf4:¬ f = 4:=h2;refine w_5 ?_;refine hcd (fun h3=>?_) (fun h3=>?_)
  · have hpp:=bfz (n:=n) (l:=l) (m:=m) hf3 hf4 h3;refine w_4 ?_;refine qcx (wgx Tryz.func34) (bjg n l m) ?_;refine w_6 ?_;exact ⟨⟨⟨_,rfl,(by rw [hpp];first | exact CoR.refl _ | exact coN)⟩,⟨_,rfl,(by rw [hpp];exact CoR.refl _)⟩,tt⟩,uu⟩
  have hpp:=bmv (n:=n) (l:=l) (m:=m) hf3 hf4 h3;refine w_3 ?_;exact ⟨⟨⟨_,rfl,(by rw [hpp];first | exact CoR.refl _ | exact coN)⟩,⟨_,rfl,(by rw [hpp];exact CoR.refl _)⟩,tt⟩,uu⟩
 refine w_6 ?_;refine hcn (fun h4=>?_) (fun h4=>?_)
 · have hr:=ber (q:=im n l m f) hk h4;refine v_7 ?_;exact by rw [hr.1,hr.2];exact ⟨CoC.agg ⟨coN,CoP.refl _,coN,trivial⟩,CoC.refl _,trivial⟩
 have hr:=b4e (q:=im n l m f) hk bsr;refine w_7 ?_;refine qcx (wgx Tryz.func35) (b68 n l m (im n l m f).1) ?_;refine v_5 ?_;exact by rw [hr.1,hr.2];exact CoL.refl _
def b6w (n:Int) (l m:List Fd):a7 btb 15 [pI n,pP (fdl l),pP (fdl m)] (aa [dsn (goD n l m (mz n l)),pI (goE n l m (mz n l))]):=by
 refine hpx (nt:=50) Tryz.func15 ?_;refine sx7 ?_;refine m9 0 ?_;refine w_8 ?_;refine qcx (wgx Tryz.func31) (bhn n l m) ?_;refine w_7 ?_;refine hcn (fun h0=>?_) (fun h0=>?_)
 · have hr:=bfq (q:=mz n l) h0;refine v_7 ?_;exact by rw [hr.1,hr.2];exact ⟨CoC.agg ⟨coN,CoP.refl _,coN,trivial⟩,CoC.refl _,trivial⟩
 have hk:mq n l m = 0:=by assumption
 refine w_5 ?_;refine qcx (wgx Tryz.func42) (bkn n l) ?_;refine w_8 ?_;refine nc (ka 0 (ka 1 (ka 2 (ka 6 kn)))) (kb 0 km) ⟨[(9,some (.v (.one (.p (asl (mz n l).1))))),(11,some (vI (mz n l).2))],[]⟩ ?_ ?_
 ·
  refine w_5 ?_;refine ai rfl rfl (fun r1=>?_) (fun r1=>?_)
  ·
   have h1:=tz1 r1;(iterate 2 refine qy ?_ (hg:=(gtt r1)));refine w_2 ?_;refine am _ rfl (fun r2=>?_) (fun r2=>?_)
   · have h2:=ci (bq r1 r2);have hpp:=bhf (n:=n) (l:=l) bsr bt5;refine w_3 ?_;refine qcx (wgx Tryz.func32) (ata axw n l) ?_;refine w_6 ?_;exact ⟨⟨⟨_,rfl,(by rw [hpp];exact CoR.refl _)⟩,⟨_,rfl,(by rw [hpp];exact CoR.refl _)⟩,tt⟩,uu⟩
   have h2:=cj (bq r1 r2);have hpp:=bf8 (n:=n) (l:=l) bsr bt5;refine dp ?_;exact ⟨⟨⟨_,rfl,(by rw [hpp];exact CoR.refl _)⟩,⟨_,rfl,(by rw [hpp];exact CoR.refl _)⟩,tt⟩,uu⟩
  have h1:=tz2 r1;have hpp:=bm7 (n:=n) (l:=l) h1;(iterate 2 refine k9 (gft r1) ?_);refine w_4 ?_
  exact ⟨⟨⟨_,rfl,(by rw [hpp];exact CoR.refl _)⟩,⟨_,rfl,(by rw [hpp];exact CoR.refl _)⟩,tt⟩,uu⟩
 refine w_6 ?_;refine hcn (fun h3=>?_) (fun h3=>?_)
 · have hr:=ber (q:=mz n l) hk h3;refine v_7 ?_;exact by rw [hr.1,hr.2];exact ⟨CoC.agg ⟨coN,CoP.refl _,coN,trivial⟩,CoC.refl _,trivial⟩
 have hr:=b4e (q:=mz n l) hk bsr;refine w_7 ?_;refine qcx (wgx Tryz.func35) (b68 n l m (mz n l).1) ?_;refine v_5 ?_;exact by rw [hr.1,hr.2];exact CoL.refl _
end
section
open Go.Proofs
def bb5 (ns:List Bs) (l m:List Fd) (ps:List AS) (c:Int) (sts:PV) (hsz:∀ b ∈ ns,b.size <= 1000):a7 btb 23 [pP (bsl ns),pP (fdl l),pP (fdl m), .agg [asl ps, .raw (.int .i64 c),sts]] (aa [pS (agi ns l m ps c),pI (x3 ns l m ps)]):=by
 refine hpx (nt:=128) Tryz.func23 ?_;refine sx7 ?_;refine m9 0 ?_;refine m9 1 ?_;refine w_7 ?_;refine qcx (wgx Tryz.func51) (b80 ns (fun b hb=>bon (hsz b hb) bsu)) ?_;refine dl ?_;refine hcn (fun h0=>?_) (fun h0=>?_)
 · refine w_6 ?_;refine hrr ?_;have hr:=bhu (l:=l) (m:=m) (ps:=ps) (c:=c) h0;exact f9 rfl rfl (⟨CoC.one (CoP.of_eq (by rw [hr.2];rfl)),cci hr.1.symm,trivial⟩)
 refine kw ?_;refine qcx ae3 (a9f ns.length ps) ?_;refine w_7 ?_;refine hcn (fun h1=>?_) (fun h1=>?_)
 · refine w_6 ?_;refine hrr ?_;have hr:=bhr (l:=l) (m:=m) (c:=c) h0 h1;exact f9 rfl rfl (⟨CoC.one (CoP.of_eq (by rw [hr.2];rfl)),cci hr.1.symm,trivial⟩)
 refine w_7 ?_;refine qcx zc (vu ns.length l m) ?_;refine w_7 ?_;refine hcn (fun h2=>?_) (fun h2=>?_)
 · refine w_6 ?_;refine hrr ?_;have hr:=bhq (c:=c) h0 h1 h2;exact f9 rfl rfl (⟨CoC.one (CoP.of_eq (by rw [hr.2];rfl)),cci hr.1.symm,trivial⟩)
 refine w_2 ?_;refine dc 4 rfl rfl rfl ?_;refine dc 7 rfl rfl rfl ?_;have he:oi ns = 0:=h0;have hv:lvE ns.length ps = 0:=h1;have hb:be ns.length l m = 0:=h2;obtain ⟨hn0,hn8,h64,_,_⟩:=nj hv;obtain ⟨_,_,hl64,hall,_,_⟩:=m7 hb;have hx:=bl3 hsz;have hP:∀ i,(gz ns l ps i).length <= 134400000000:=fun i=>av1 hsz (fun p hp=>akd hv hp) h64
 have hin:∀ f ∈ l,sub f.lhs (a6 ns.length) /\ sub f.rhs (a6 ns.length):=fun f hf=>by
  have:=(be1 hn0 bsq).1 (bp1.1 hall f hf);exact ⟨ak o5 this,ak pn this⟩
 have hmem:∀ s,sub s (a6 ns.length) -> ∀ i ∈ al s,i < ns.length:=fun s hs i hi=>bce bsq hs hi;refine w_6 ?_;refine m9 2 ?_;refine d5 ?_;refine bp (ka 1 (ka 7 (ka 15 (ka 16 (ka 51 (ka 52 kn)))))) km (fun i=>⟨[(53,some (vI i))],[(2,some (bd false (gz ns l ps i)))]⟩) ps.length ⟨tt,⟨⟨_,rfl,⟨fun h=>(by cases h),rfl,rfl,rfl⟩⟩,trivial⟩⟩ ?_;rintro i hi;refine w_5 ?_;refine hcd (fun h3=>?_) (fun h3=>?_)
 ·
  have hil:i < ps.length:=by omega
  have hmp:(ps.getD i default) ∈ ps:=dj hil;have hps:sub (ps.getD i default) (a6 ns.length):=a7a hv hmp;refine kw ?_;refine qcx adn (ak9 (ps.getD i default) ns (hmem _ hps) hsz) ?_;refine rq rfl rfl rfl rfl rfl ?_ (hp:=(by have h2:=hx (ps.getD i default);show 5 + _ <= _;omega));refine rq rfl rfl rfl rfl rfl ?_ (hp:=(by have h2:=hx (ps.getD i default);rw [szA];show 5 + _ + 5 <= _;omega));refine fc9 tz (tq 2 false (gz ns l ps i) ((⟨#[112,97,114,116,32]⟩ ++ txT ns (ps.getD i default)) ++ ⟨#[32,107,101,121,115]⟩) (by have h1:=hP i;have h2:=hx (ps.getD i default);rw [szA,szA];show _ + (5 + _ + 5) <= _;omega)) uu ?_;refine w_6 ?_;refine qcx (wgx Tryz.func58) (cPk l (ps.getD i default)) ?_;refine w_4 ?_;refine bp (ka 1 (ka 7 (ka 15 (ka 16 (ka 51 (ka 52 (ka 53 (ka 65 (ka 66 kn))))))))) km (fun k=>⟨[(67,some (vI k))],[(2,some (bd false (((gz ns l ps i) ++ wj ns (ps.getD i default)) ++ qf ns (pkL l (ps.getD i default)) k)))]⟩) ((pkL l (ps.getD i default)).length) ⟨tt,⟨⟨_,rfl,(CoO.of_eq (by rw [bdh]))⟩,trivial⟩⟩ ?_;rintro k hk;refine w_5 ?_;refine hcd (fun h4=>?_) (fun h4=>?_)
  ·
   have hkk:k < (pkL l (ps.getD i default)).length:=by omega
   have hkey:sub ((pkL l (ps.getD i default)).getD k default) (a6 ns.length):=ak (bho (dj hkk)) hps;have hpl:=ae9 (l:=l) (akd hv hmp);refine i6 ?_;refine qcx adn (ak9 ((pkL l (ps.getD i default)).getD k default) ns (hmem _ hkey) hsz) ?_;refine rq rfl rfl rfl rfl rfl ?_ (hp:=(by have h2:=hx ((pkL l (ps.getD i default)).getD k default);show 1 + _ <= _;omega));refine fc9 tz (tq 2 false (((gz ns l ps i) ++ wj ns (ps.getD i default)) ++ qf ns (pkL l (ps.getD i default)) k) (⟨#[32]⟩ ++ txT ns ((pkL l (ps.getD i default)).getD k default)) (by have h1:=hP i;have h2:=hx ((pkL l (ps.getD i default)).getD k default);have h3:=a8j hsz (ps.getD i default);have h4:=a8b (i:=k) (ks:=(pkL l (ps.getD i default))) hsz;have h5:=ae9 (l:=l) (akd hv hmp);rw [szA,bob,bob];show _ + (1 + _) <= _;omega)) uu ?_;refine w_5 ?_;exact lpx (k + 1) ⟨tt,⟨⟨_,rfl,(CoO.of_eq (by rw [bhm hkk]))⟩,trivial⟩⟩
  obtain rfl:k = (pkL l (ps.getD i default)).length:=by omega
  refine w_2 ?_;refine fc9 tz (tq 2 false (((gz ns l ps i) ++ wj ns (ps.getD i default)) ++ qf ns (pkL l (ps.getD i default)) (pkL l (ps.getD i default)).length) ⟨#[10]⟩ (by have h1:=hP i;have h3:=a8j hsz (ps.getD i default);have h4:=a8b (i:=(pkL l (ps.getD i default)).length) (ks:=(pkL l (ps.getD i default))) hsz;have h5:=ae9 (l:=l) (akd hv hmp);rw [bob,bob];show _ + 1 <= _;omega)) uu ?_;refine w_5 ?_;exact lpx (i + 1) ⟨tt,⟨⟨_,rfl,(CoO.of_eq (by rw [bd1 hil]))⟩,trivial⟩⟩
 obtain rfl:i = ps.length:=by omega
 refine w_7 ?_;refine qcx (wgx Tryz.func59) (b6x l ps bsq) ?_;refine w_4 ?_;have hL:∀ j,(ju ns l (ca l ps l.length) j).length <= 4102400:=fun j=>ave hsz (bon amo hl64);refine bp (ka 1 (ka 7 (ka 15 (ka 16 (ka 82 (ka 83 kn)))))) km (fun j=>⟨[(84,some (vI j))],[(2,some (bd false ((gz ns l ps ps.length) ++ ju ns l (ca l ps l.length) j)))]⟩) ((ca l ps l.length).length) ⟨tt,⟨⟨_,rfl,(CoO.of_eq (by rw [show ju ns l (ca l ps l.length) 0 = [] from rfl,bpd]))⟩,trivial⟩⟩ ?_;rintro j hj;refine w_5 ?_;refine hcd (fun h5=>?_) (fun h5=>?_)
 ·
  have hjl:j < (ca l ps l.length).length:=by omega
  have hj2:=bbr hjl;have hls:=bon (amo (l:=l) (ps:=ps)) hl64;have hf:=hin (l.getD ((ca l ps l.length).getD j default) default) (dj hj2);refine kw ?_;refine rq rfl rfl rfl rfl rfl ?_ (hp:=⟨rfl,bqk _,Int.ofNat_lt.2 hj2⟩);refine w_2 ?_;refine qcx adn (ak9 (l.getD ((ca l ps l.length).getD j default) default).lhs ns (hmem _ hf.1) hsz) ?_;refine rq rfl rfl rfl rfl rfl ?_ (hp:=(by have h2:=hx (l.getD ((ca l ps l.length).getD j default) default).lhs;show 5 + _ <= _;omega));refine rq rfl rfl rfl rfl rfl ?_ (hp:=(by have h2:=hx (l.getD ((ca l ps l.length).getD j default) default).lhs;rw [szA];show 5 + _ + 4 <= _;omega));refine w_3 ?_;refine rq rfl rfl rfl rfl rfl ?_ (hp:=⟨rfl,bqk _,Int.ofNat_lt.2 hj2⟩);refine w_2 ?_;refine qcx adn (ak9 (l.getD ((ca l ps l.length).getD j default) default).rhs ns (hmem _ hf.2) hsz) ?_;refine rq rfl rfl rfl rfl rfl ?_ (hp:=(by have h2:=hx (l.getD ((ca l ps l.length).getD j default) default).lhs;have h3:=hx (l.getD ((ca l ps l.length).getD j default) default).rhs;rw [szA,szA];show 5 + _ + 4 + _ <= _;omega));refine rq rfl rfl rfl rfl rfl ?_ (hp:=(by have h2:=hx (l.getD ((ca l ps l.length).getD j default) default).lhs;have h3:=hx (l.getD ((ca l ps l.length).getD j default) default).rhs;rw [szA,szA,szA];show 5 + _ + 4 + _ + 1 <= _;omega));refine fc9 tz (tq 2 false ((gz ns l ps ps.length) ++ ju ns l (ca l ps l.length) j) ((((⟨#[108,111,115,116,32]⟩ ++ txT ns (l.getD ((ca l ps l.length).getD j default) default).lhs) ++ ⟨#[32,45,62,32]⟩) ++ txT ns (l.getD ((ca l ps l.length).getD j default) default).rhs) ++ ⟨#[10]⟩) (by have h1:=hP ps.length;have h2:=hx (l.getD ((ca l ps l.length).getD j default) default).lhs;have h3:=hx (l.getD ((ca l ps l.length).getD j default) default).rhs;have h4:=hL j;rw [szA,szA,szA,szA,bob];show _ + (5 + _ + 4 + _ + 1) <= _;omega)) uu ?_;refine w_6 ?_;exact lpx (j + 1) ⟨tt,⟨⟨_,rfl,(CoO.of_eq (by rw [bcl hjl _ rfl]))⟩,trivial⟩⟩
 obtain rfl:j = (ca l ps l.length).length:=by omega
 refine w_3 ?_;refine fc9 tz (tq 2 false ((gz ns l ps ps.length) ++ ju ns l (ca l ps l.length) (ca l ps l.length).length) ⟨#[99,108,97,105,109,115]⟩ (by have h1:=hP ps.length;have h4:=hL (ca l ps l.length).length;rw [bob];show _ + 6 <= _;omega)) uu ?_;refine w_4 ?_;refine m9 3 ?_;refine w_4 ?_;refine b6 109 rfl rfl rfl ?_;refine ah (ι:=Nat) (ka 7 (ka 16 (ka 110 kn))) km (fun i=>⟨[(109,some (.v (.one (.p (bsl kx))))),(111,some (vI i))],[(2,some (bd false ((((gz ns l ps ps.length) ++ ju ns l (ca l ps l.length) (ca l ps l.length).length) ++ [99,108,97,105,109,115]) ++ ji c i)))]⟩) (fun i=>i <= 5) (fun i=>5 - i) (0) bsq ⟨⟨⟨_,rfl,(show CoP _ _ from CoP.sl rfl (.inl rfl) (fun h=>by cases h) fun i j hi hj=>by have hj:j < 1:=hj;obtain rfl:j = 0:=bsq;exact CoP.of_eq (b1y (f:=fun a b=>(kx.map fun b=>me (.string b)).getD (a * 1 + b) .any) hi rfl rfl rfl rfl rfl))⟩,tt⟩,⟨⟨_,rfl,(CoO.of_eq (by rw [show ji c 0 = [] from rfl,bpd]))⟩,trivial⟩⟩ ?_;rintro i hi;refine w_5 ?_;refine hcd (fun h6=>?_) (fun h6=>?_)
 ·
  have hi5:i < 5:=by have:(i:Int) < 5:=h6;omega
  refine apf ?_;refine hcd (fun h7=>?_) (fun h7=>?_)
  ·
   have hbit:af0 c i = true:=decide_eq_true h7;refine w_2 ?_;refine rq rfl rfl rfl rfl rfl ?_ (hp:=(by have h6:=aow hi5;show 1 + (kx.getD i default).size <= _;omega));refine fc9 tz (tq 2 false ((((gz ns l ps ps.length) ++ ju ns l (ca l ps l.length) (ca l ps l.length).length) ++ [99,108,97,105,109,115]) ++ ji c i) (⟨#[32]⟩ ++ kx.getD i default) (by have h1:=hP ps.length;have h4:=hL (ca l ps l.length).length;have h5:=aaz (c:=c) (i:=i) bsq;have h6:=aow hi5;rw [szA,bob,bob,bob];show _ + 6 + _ + (1 + _) <= _;omega)) uu ?_;refine w_5 ?_
   first | (refine lpz (i + 1) ⟨tt, ⟨⟨_, rfl, (CoO.of_eq (by rw [az3 hbit]))⟩, trivial⟩⟩ ?_; show i + 1 <= _; omega)
         | (refine lpz (i + 1) ⟨tt,⟨⟨_,rfl,(CoO.of_eq (by rw [<- axm hbit]))⟩,trivial⟩⟩ ?_;show i + 1 <= _;omega)
  have hbit:af0 c i = false:=decide_eq_false h7;refine w_5 ?_
  first | (refine lpz (i + 1) ⟨tt, ⟨⟨_, rfl, (CoO.of_eq (by rw [az3 hbit]))⟩, trivial⟩⟩ ?_; show i + 1 <= _; omega)
        | (refine lpz (i + 1) ⟨tt,⟨⟨_,rfl,(CoO.of_eq (by rw [<- axm hbit]))⟩,trivial⟩⟩ ?_;show i + 1 <= _;omega)
 obtain rfl:i = 5:=by have:¬ (i:Int) < 5:=h6;omega
 refine w_3 ?_;refine fc9 tz (tq 2 false ((((gz ns l ps ps.length) ++ ju ns l (ca l ps l.length) (ca l ps l.length).length) ++ [99,108,97,105,109,115]) ++ ji c 5) ⟨#[10]⟩ (by have h1:=hP ps.length;have h4:=hL (ca l ps l.length).length;have h5:=aaz (c:=c) (i:=5) bsq;rw [bob,bob,bob];show _ + 6 + _ + 1 <= _;omega)) uu ?_;refine w_3 ?_;refine fc9 b09 (b75 2 false (aln ns l ps c) (by unfold aln;exact List.append_ne_nil_of_right_ne_nil _ bst)) uu ?_;refine w_3 ?_;refine hrr ?_;have hr:=bfa (c:=c) he hv hb;exact f9 rfl rfl (⟨CoC.one (CoP.of_eq (by rw [hr.2];rfl)),cci hr.1.symm,trivial⟩)
end
section
section
variable {n:Int} {l m:List Fd} {q:List Fd} {i:Nat}
def evT (q:List Fd) (i:Nat):List Fd:=((List.range i).filter fun k=>decide (((k:Nat):Int) % 2 = 0)).map fun k=>q.getD k default
def odT (q:List Fd) (i:Nat):List Fd:=((List.range i).filter fun k=>!decide (((k:Nat):Int) % 2 = 0)).map fun k=>q.getD k default
end
abbrev exC:List Fd:=[⟨1,2⟩,⟨2,4⟩]
abbrev exA:List Fd:=[⟨3,4⟩,⟨4,1⟩]
abbrev exN:List Bs:=[⟨#[97]⟩,⟨#[98]⟩,⟨#[99]⟩]
def biy:(goD 3 exC [] (im 3 exC [] 3)).1 = [3,6] /\ (goD 3 exC [] (im 3 exC [] 3)).2.1 = 31 /\ goE 3 exC [] (im 3 exC [] 3) = 0:=by decide +kernel
def bk1:(goD 3 exA [] (im 3 exA [] 4)).1 = [5,6] /\ (goD 3 exA [] (im 3 exA [] 4)).2.1 = 29 /\ goE 3 exA [] (im 3 exA [] 4) = 0:=by decide +kernel
def bj6:(goD 3 exA [] (mz 3 exA)).1 = [7] /\ (goD 3 exA [] (mz 3 exA)).2.1 = 7 /\ goE 3 exA [] (mz 3 exA) = 0:=by decide +kernel
abbrev b25:List UInt8:=[112,97,114,116,32,97,44,98,32,107,101,121,115,32,97,10,112,97,114,116,32,98,44,99,32,107,101,121,115,32,98,10,99,108,97,105,109,115,32]
abbrev b35:List UInt8:=[108,111,115,115,108,101,115,115,32,112,114,101,115,101,114,118,105,110,103,32,116,104,105,114,100,32,98,111,121,99,101,32,102,111,117,114,116,104,10]
def bj7:x3 exN exC [] [3,6] = 0 /\ aln exN exC [3,6] 31 = List.append b25 b35:=by
 constructor <;> decide +kernel
end
section
open Go.Proofs
def bhl (a:List AS):a7 btb 30 [pP (asl a),pP (asl a)] (aa [pB true]):=by
 have h:=bmc a a;rw [decide_eq_true rfl] at h;exact h
def bey:a7 btb 12 [pI 3,pP (fdl exC),pP (fdl []),pI 3] (aa [dsn ([3,6],31,(goD 3 exC [] (im 3 exC [] 3)).2.2),pI 0]):=by
 have h:=ad9 3 exC [] 3;obtain ⟨h1,h2,h3⟩:=biy;rw [h3] at h;unfold dsn at h ⊢;rw [h1,h2] at h;exact h
def bff:a7 btb 12 [pI 3,pP (fdl exA),pP (fdl []),pI 4] (aa [dsn ([5,6],29,(goD 3 exA [] (im 3 exA [] 4)).2.2),pI 0]):=by
 have h:=ad9 3 exA [] 4;obtain ⟨h1,h2,h3⟩:=bk1;rw [h3] at h;unfold dsn at h ⊢;rw [h1,h2] at h;exact h
def bf7:a7 btb 15 [pI 3,pP (fdl exA),pP (fdl [])] (aa [dsn ([7],7,(goD 3 exA [] (mz 3 exA)).2.2),pI 0]):=by
 have h:=b6w 3 exA [];obtain ⟨h1,h2,h3⟩:=bj6;rw [h3] at h;unfold dsn at h ⊢;rw [h1,h2] at h;exact h
def bjw (sts:PV):a7 btb 23 [pP (bsl exN),pP (fdl exC),pP (fdl []), .agg [asl [3,6], .raw (.int .i64 31),sts]] (aa [pS ⟨(List.append b25 b35).toArray⟩,pI 0]):=by
 have h:=bb5 exN exC [] [3,6] 31 sts bsu;obtain ⟨h1,h2⟩:=bj7;rw [h1,show agi exN exC [] [3,6] 31 = ⟨(List.append b25 b35).toArray⟩ from (if_pos h1).trans (congrArg bOf h2)] at h;exact h
def anj  : a7 btb 11 [] (aa [pB true]):=by
 refine hpx (nt:=84) Tryz.func11 ?_;refine w_8 ?_;refine m9 0 ?_;refine w_6 ?_;refine m9 1 ?_;refine w_3 ?_;refine b6 1 rfl rfl rfl ?_;refine b6 2 rfl rfl rfl ?_;refine w_2 ?_;refine rc rfl rfl rfl rfl rfl rfl ana (bey) (⟨CoC.refl _,(CoC.one (CoP.sl rfl (.inl rfl) (fun h=>(by cases h)) fun i j hi hj=>CoP.of_eq (by have hi:i < 2:=hi;have hj:j < 2:=hj;rcases (show i = 0 \/ i = 1 by omega) with rfl | rfl <;> rcases (show j = 0 \/ j = 1 by omega) with rfl | rfl <;> rfl))),CoC.one coN,CoC.refl _,trivial⟩) rfl rfl ?_;refine w_3 ?_;refine m9 2 ?_;refine w_5 ?_;refine m9 3 ?_;refine w_2 ?_;refine rc rfl rfl rfl rfl rfl rfl (wgx Tryz.func23) (bjw _) (⟨(CoC.one (CoP.sl rfl (.inl rfl) (fun h=>(by cases h)) fun i j hi hj=>CoP.of_eq (by have hi:i < 3:=hi;have hj:j < 1:=hj;obtain rfl:j = 0:=bsq;rcases (show i = 0 \/ i = 1 \/ i = 2 by omega) with rfl | rfl | rfl <;> rfl))),(CoC.one (CoP.sl rfl (.inl rfl) (fun h=>(by cases h)) fun i j hi hj=>CoP.of_eq (by have hi:i < 2:=hi;have hj:j < 2:=hj;rcases (show i = 0 \/ i = 1 by omega) with rfl | rfl <;> rcases (show j = 0 \/ j = 1 by omega) with rfl | rfl <;> rfl))),CoC.one coN,CoC.refl _,trivial⟩) rfl rfl ?_;refine w_9 ?_;refine rc rfl rfl rfl rfl rfl rfl ana (bff) (⟨CoC.refl _,(CoC.one (CoP.sl rfl (.inl rfl) (fun h=>(by cases h)) fun i j hi hj=>CoP.of_eq (by have hi:i < 2:=hi;have hj:j < 2:=hj;rcases (show i = 0 \/ i = 1 by omega) with rfl | rfl <;> rcases (show j = 0 \/ j = 1 by omega) with rfl | rfl <;> rfl))),CoC.one coN,CoC.refl _,trivial⟩) rfl rfl ?_;refine w_3 ?_;refine m9 4 ?_;refine w_6 ?_;refine rc rfl rfl rfl rfl rfl rfl (wgx Tryz.func15) (bf7) (⟨CoC.refl _,(CoC.one (CoP.sl rfl (.inl rfl) (fun h=>(by cases h)) fun i j hi hj=>CoP.of_eq (by have hi:i < 2:=hi;have hj:j < 2:=hj;rcases (show i = 0 \/ i = 1 by omega) with rfl | rfl <;> rcases (show j = 0 \/ j = 1 by omega) with rfl | rfl <;> rfl))),CoC.one coN,trivial⟩) rfl rfl ?_
 refine w_3 ?_;refine m9 5 ?_;refine i6 ?_;(iterate 2 refine rq rfl rfl rfl rfl (gtt (dx rfl rfl)) ?_);refine w_2 ?_;(iterate 2 refine rq rfl rfl rfl rfl (gtt (dx (dx rfl rfl) rfl)) ?_);refine w_2 ?_;(iterate 3 refine rq rfl rfl rfl rfl (gtt (dx (dx (dx rfl rfl) rfl) rfl)) ?_);refine w_2 ?_;(iterate 2 refine rq rfl rfl rfl rfl (gtt (dx (dx (dx (dx rfl rfl) rfl) rfl) rfl)) ?_);refine w_2 ?_
 refine ai rfl rfl (fun r0=>?_) (fun r0=>?_)
 ·
  have h0:=tz1 (bq (dx (dx (dx (dx rfl rfl) rfl) rfl) rfl) r0);(iterate 2 refine qy ?_ (hg:=(gtt r0)));refine rm 6 rfl rfl rfl rfl rfl (gtt r0) ?_
  refine rc rfl rfl rfl rfl rfl rfl (wgx Tryz.func30) (bhl [5,6]) (⟨CoC.refl _,(CoC.one (CoP.sl rfl (.inl rfl) (fun h=>(by cases h)) fun i j hi hj=>CoP.of_eq (by have hi:i < 2:=hi;have hj:j < 1:=hj;obtain rfl:j = 0:=bsq;rcases (show i = 0 \/ i = 1 by omega) with rfl | rfl <;> rfl))),trivial⟩) rfl (gtt r0) ?_;refine w_2 ?_;(iterate 3 refine rq rfl rfl rfl rfl (gtt (dx r0 rfl)) ?_);refine w_2 ?_;(iterate 2 refine rq rfl rfl rfl rfl (gtt (dx (dx r0 rfl) rfl)) ?_);refine rm 7 rfl rfl rfl rfl rfl (gtt (dx (dx r0 rfl) rfl)) ?_;refine rc rfl rfl rfl rfl rfl rfl (wgx Tryz.func30) (bhl [7]) (⟨CoC.refl _,(CoC.one (CoP.sl rfl (.inl rfl) (fun h=>(by cases h)) fun i j hi hj=>CoP.of_eq (by have hi:i < 1:=hi;have hj:j < 1:=hj;obtain rfl:j = 0:=bsq;obtain rfl:i = 0:=bsq;rfl))),trivial⟩) rfl (gtt (dx (dx r0 rfl) rfl)) ?_;refine w_2 ?_;(iterate 3 refine rq rfl rfl rfl rfl (gtt (dx (dx (dx r0 rfl) rfl) rfl)) ?_);refine v_3 ?_;exact CoL.refl _
 have h0:=tz2 (bq (dx (dx (dx (dx rfl rfl) rfl) rfl) rfl) r0);exfalso
 first | exact h0 rfl | exact h0 trivial | cases h0
end
section
open Go.Proofs
def bkb (d:Rcp) (hf:d.f.length <= 16777216) (hm:d.m.length <= 16777216) (hp:d.p.length <= 16777216):a7 btb 10 [d.pc] (aa [pI (d.num 4),pP (fdl (d.fs 4)),pP (fdl (d.ms 4)),pP (asl (d.ps 4)),pB (okR d)]):=by
 refine hpx (nt:=30) Tryz.func10 ?_;refine sx7 ?_;refine m9 0 ?_;refine w_9 ?_;refine qcx (wgx Tryz.func29) (bm1 d hf hm hp) ?_;refine apf ?_;refine ai rfl rfl (fun r0=>?_) (fun r0=>?_)
 ·
  have h0:=r0;(iterate 3 refine qy ?_ (hg:=(gtt r0)));refine w_7 ?_
  exact hx8 rfl rfl rfl (⟨CoC.refl _,CoC.refl _,CoC.refl _,CoC.refl _,ccb (by unfold okR;first | (simp_all;done) | (rw [‹decide _ = false›];rfl) | (simp_all;omega)),trivial⟩)
 have h0:=r0;(iterate 3 refine k9 (gft r0) ?_);refine w_7 ?_
 exact hx8 rfl rfl rfl (⟨CoC.refl _,CoC.refl _,CoC.refl _,CoC.refl _,ccb (by unfold okR;first | (simp_all;done) | (rw [‹decide _ = false›];rfl) | (simp_all;omega)),trivial⟩)
end
section
open Go.Proofs
def bi9 (n:Int) (l m:List Fd) (ps:List AS) (hn:n <= 16) (hp:∀ q ∈ ps,sub q (a6 n)):a7 btb 48 [pI n,pP (fdl l),pP (fdl m),pP (asl ps)] (aa [pI (fmI n l m ps)]):=by
 refine hpx (nt:=59) Tryz.func48 ?_;refine w_5 ?_;refine cq 3 rfl fun hlen=>?_;refine w_9 ?_;refine bp (ka 0 (ka 1 (ka 2 (ka 3 kn)))) km (fun i=>⟨[(9,some (vI (fmI n l m (ps.take i)))),(10,some (vI i))],[]⟩) ps.length kk ?_;rintro i hi;refine w_8 ?_;refine hcd (fun h0=>?_) (fun h0=>?_)
 ·
  have hil:i < ps.length:=by omega
  refine dp ?_;refine nc (ka 0 (ka 1 (ka 2 (ka 3 (ka 10 kn))))) km ⟨[(9,some (vI (fmI n l m (ps.take (i + 1)))))],[]⟩ ?_ ?_
  ·
   refine a6f ?_;refine nc (ka 0 (ka 1 (ka 2 (ka 3 (ka 10 kn))))) km ⟨[(9,some (vI (fm1 n l m ps i)))],[]⟩ ?_ ?_
   ·
    refine w_8 ?_;refine qcx (wgx Tryz.func107) (b1a n l (ps.getD i default)) ?_;refine dl ?_;refine hcv (fun h1=>?_) (fun h1=>?_)
    · have hx:=bk6 (m:=m) hil h1;refine w_5 ?_;exact ⟨⟨⟨_,rfl,(coi hx)⟩,tt⟩,trivial⟩
    have hx:=bjz (m:=m) hil h1;refine dp ?_;exact ⟨⟨⟨_,rfl,(coi hx)⟩,tt⟩,trivial⟩
   refine nc (ka 0 (ka 1 (ka 2 (ka 3 (ka 10 kn))))) km ⟨[(9,some (vI (fm2 n l m ps i)))],[]⟩ ?_ ?_
   ·
    refine w_7 ?_;refine qcx (wgx Tryz.func108) (bi3 l (ps.getD i default)) ?_;refine w_2 ?_;refine hcv (fun h2=>?_) (fun h2=>?_)
    · have hx:=bkw (n:=n) (m:=m) hil (by simpa using h2);refine w_5 ?_;exact ⟨⟨⟨_,rfl,(coi hx)⟩,tt⟩,trivial⟩
    have hx:=bjs (n:=n) (m:=m) hil (by simpa using h2);refine dp ?_;exact ⟨⟨⟨_,rfl,(coi hx)⟩,tt⟩,trivial⟩
   refine w_9 ?_;refine qcx (wgx Tryz.func109) (bcy n l m (ps.getD i default) hn (hp _ (dj hil))) ?_;refine w_3 ?_;refine m9 0 ?_;refine w_7 ?_;refine hcb (fun h3=>?_) (fun h3=>?_)
   · have hx:=bjc hil h3;refine w_5 ?_;exact ⟨⟨⟨_,rfl,(coi hx)⟩,tt⟩,trivial⟩
   have hx:=bjt hil h3;refine dp ?_;exact ⟨⟨⟨_,rfl,(coi hx)⟩,tt⟩,trivial⟩
  refine w_5 ?_;exact lpx (i + 1) kk
 obtain rfl:i = ps.length:=by omega
 refine v_6 ?_;exact ⟨cci (by rw [bog]),trivial⟩
def aC (q:List AS) (_:Nat):PV:=asl q
end
section
section
variable {n:Int} {l m:List Fd} {ps:List AS}
def a7g (h:mq n l m = 0):0 <= n /\ n <= 8 /\ be n l m = 0 /\ au n l = 0 /\ fc n l 8 = 0 /\ ck4 n l m 0 = 0:=by
 unfold mq at h;split at h
 · cases h
 have hv:au n l = 0:=by
  have h2:=h;unfold be at h2;split at h2
  · assumption
  exact h2
 refine ⟨by omega,by omega,h,hv, ?_, ?_⟩
 · unfold fc
   rw [if_pos hv,if_neg bsq]
 rw [a60 bsq];exact afj h bst
end
end
section
open Go.Proofs
def q8 (n:Int) (q:BitVec 8):AS:=q.setWidth 32 &&& a6 n
end
end Go.Hx

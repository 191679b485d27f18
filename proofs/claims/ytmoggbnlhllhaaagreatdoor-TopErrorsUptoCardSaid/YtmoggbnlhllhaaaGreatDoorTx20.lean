/- A part of the proof: Cc1 Cc2 Cc3 Ls1 Cs24 Cs26 V25 Cs27 Cs28 Cs30 Cs31 Cs32 Cs33 Cs34 Cs35 V34 Cs36 Cz1m Cs37 Ls2 Ls3 Ls5 Ls6 W2a Rbm Bz1 Bz2 Bz3 Y1 Bz4 Y3 Bz5 Rb25 Rb34 Ch22 Ch25 Cc4 Sp1 Sp2. -/
import Derived.Test.YtmoggbnlhllhaaaGreatDoorTx19
set_option linter.all false
set_option maxRecDepth 100000
namespace Go.Hx
section
def AgE(E:Int->Int->Prop)(a b:Rw)(s:AS):Prop:=∀i:Nat,i<a.length->ir s (i:Int)=true->E (a.getD i default) (b.getD i default)
structure Mdl (N:Nat) (p m:List Fd) (E:Int->Int->Prop) (R:Rw->Prop):Prop where
 refl:∀x,E x x
 symm:∀{x y},E x y->E y x
 trans:∀{x y z},E x y->E y z->E x z
 len:∀{r},R r->r.length=N
 cong:∀{r r':Rw},R r->r'.length=r.length->(∀i,i<r.length->E (r.getD i default) (r'.getD i default))->R r'
 fd:∀{x},x∈p->∀{a b},R a->R b->AgE E a b x.lhs->AgE E a b x.rhs
 mv:∀{x},x∈m->∀{a b},R a->R b->AgE E a b x.lhs->R (j8 a b (x.lhs|||x.rhs))
def LE(N:Nat)(p m:List Fd)(l:List Rw)(x y:Int):Prop:=∀E R,Mdl N p m E R->(∀r,r∈l->R r)->E x y
def LR(N:Nat)(p m:List Fd)(l:List Rw)(r:Rw):Prop:=∀E R,Mdl N p m E R->(∀r,r∈l->R r)->R r
def b0b (N:Nat) (p m:List Fd):Mdl N p m (fun _ _=>True) (fun r=>r.length=N) :=
 ⟨fun _=>trivial,fun _=>trivial,fun _ _=>trivial,fun h=>h,fun h e _=>e.trans h,fun _ _ _ _ _ _ _ _ _=>trivial,fun _ a b _ hb _=>(t8 _ _ _).trans hb⟩
def a5n {N:Nat} {p m:List Fd} {l:List Rw} (hl:∀r,r∈l->r.length=N):Mdl N p m (LE N p m l) (LR N p m l) where
 refl x:=fun E R h _=>h.refl x
 symm h:=fun E R k kl=>k.symm (h E R k kl)
 trans h h2:=fun E R k kl=>k.trans (h E R k kl) (h2 E R k kl)
 len h:=h _ _ (b0b N p m) hl
 cong h e h2:=fun E R k kl=>k.cong (h E R k kl) e fun i hi=>h2 i hi E R k kl
 fd hx _ _ ha hb hl:=fun i hi hs E R k kl=>k.fd hx (ha E R k kl) (hb E R k kl) (fun j hj hh=>hl j hj hh E R k kl) i hi hs
 mv hx _ _ ha hb hl:=fun E R k kl=>k.mv hx (ha E R k kl) (hb E R k kl) fun j hj hh=>hl j hj hh E R k kl
structure Ch (N:Nat) (p m:List Fd) (l0 l:List Rw) (σ:Int->Int):Prop where
 rows:∀r,r∈l->LR N p m l0 r
 sym:∀s,LE N p m l0 s (σ s)
 img:∀r,r∈l0->r.map σ∈l
 fix:∀r,r∈l->∀z,z∈r->σ z=z
 le:∀s,σ s<=s
section
variable {N:Nat}{p m:List Fd}{l0 l l':List Rw}{σ σ':Int->Int}{n:Int}
theorem Ch.start:Ch N p m l0 l0 id:=⟨fun r hr E R _ hl=>hl r hr,fun s E R k _=>k.refl s,fun r hr=>by rw[List.map_id];exact hr,fun _ _ _ _=>rfl,fun s=>Int.le_refl s⟩
theorem Ch.congr (h:Ch N p m l0 l σ) (e:∀r,r∈l'<->r∈l):Ch N p m l0 l' σ :=
 ⟨fun r hr=>h.rows r ((e r).1 hr),h.sym,fun r hr=>(e _).2 (h.img r hr),fun r hr=>h.fix r ((e r).1 hr),h.le⟩
def tf(hi lo z:Int):Int:=if z=hi then lo else z
section
variable {f:Int->Int}
theorem xq {r:Rw} {i:Nat} (h:i<r.length):(r.map f).getD i default=f (r.getD i default):=by
 grind
theorem Ch.sub (hl0:∀r,r∈l0->r.length=N) (h:Ch N p m l0 l σ) {hi lo:Int} (hE:LE N p m l0 hi lo) (hle:lo<=hi) (hin:∃r,r∈l/\lo∈r):Ch N p m l0 (l.map fun r=>r.map (tf hi lo)) (fun s=>tf hi lo (σ s)):=by
 have hm:=a5n (p:=p) (m:=m) hl0
 have hs:∀z,LE N p m l0 z (tf hi lo z):=fun z=>by
  unfold tf;split
  · grind
  exact hm.refl z
 refine⟨fun r hr=>?_,fun s=>hm.trans (h.sym s) (hs _),fun r hr=>?_,fun r hr z hz=>?_,fun s=>?_⟩
 · obtain ⟨r0,h0,rfl⟩:=bj3.1 hr
   exact hm.cong (h.rows r0 h0) bmu fun i hi=>by rw[xq hi];exact hs _
 · refine bj3.2 ⟨_,h.img r hr, ?_⟩
   simp_all
 · obtain ⟨r0,h0,rfl⟩:=bj3.1 hr
   obtain⟨y,hy,rfl⟩:=bj3.1 hz;obtain⟨r1,h1,h2⟩:=hin;have e1:=h.fix r0 h0 y hy;have e2:=h.fix r1 h1 lo h2;by_cases e:y=hi
   · have e3:tf hi lo y=lo:=if_pos e
     show tf hi lo (σ (tf hi lo y))=tf hi lo y;rw[e3,e2];unfold tf;split<;>rfl
   have e3:tf hi lo y=y:=if_neg e
   grind
 have h1:=h.le s
 have h2:tf hi lo (σ s)<=σ s:=by
  unfold tf
  grind
 grind
def aoi {M:Nat->Nat->Int} {a b j:Nat}:gi l (eqM M a b j)=(gi l M).map fun r=>r.map (tf (hiI (M a j) (M b j)) (loI (M a j) (M b j))):=by
 unfold gi;rw[List.map_map];refine List.map_congr_left fun i _=>?_;show _=List.map _ (List.map _ _);rw[List.map_map];rfl
def atu {M:Nat->Nat->Int} {a j:Nat} (ha:a<l.length) (hj:j<(l.getD a default).length):∃r,r∈gi l M/\M a j∈r :=
 a9a.2 ⟨a,j,ha,hj,rfl⟩
theorem Ch.eqMs (hl0:∀r,r∈l0->r.length=N) {a b:Nat} (ha:a<l.length) (hb:b<l.length):∀{js:List Nat} {M:Nat->Nat->Int} {σ:Int->Int},Ch N p m l0 (gi l M) σ->(∀j,j∈js->j<(l.getD a default).length/\j<(l.getD b default).length/\LE N p m l0 (M a j) (M b j)) ->
 ∃σ',Ch N p m l0 (gi l (eqMs M a b js)) σ'
 | [],M,σ,h,_=>⟨σ,h⟩
 | j :: js,M,σ,h,hj=>by
  obtain⟨h1,h2,h3⟩:=hj j bmu;have hm:=a5n (p:=p) (m:=m) hl0;have hlo:loI (M a j) (M b j)<=hiI (M a j) (M b j):=by unfold loI hiI;split<;>split<;>omega
  have hE:LE N p m l0 (hiI (M a j) (M b j)) (loI (M a j) (M b j)):=by
   rcases az5 (M a j) (M b j)with e|e<;>rcases ape (M a j) (M b j)with f|f<;>rw[e,f]
   · exact hm.refl _
   · exact h3
   · exact hm.symm h3
   exact hm.refl _
  have hin:∃r,r∈gi l M/\loI (M a j) (M b j)∈r:=by
   rcases ape (M a j) (M b j)with f|f<;>rw[f]
   · exact atu ha h1
   exact atu hb h2
  have hq:=h.sub hl0 hE hlo hin;rw[<- aoi]at hq
  have hs:∀z,LE N p m l0 z (if z=hiI (M a j) (M b j)then loI (M a j) (M b j)else z):=fun z=>by
   split
   · rename_i e;rw[e];exact hE
   exact hm.refl z
  exact Ch.eqMs hl0 ha hb (js:=js) hq fun k hk=>by
   obtain⟨h4,h5,h6⟩:=hj k (by simp[hk]);exact⟨h4,h5,hm.trans (hm.symm (hs (M a k))) (hm.trans h6 (hs (M b k)))⟩
theorem akz:gi l (y6 l)=l:=by
 refine a0h (a1m _ _) fun i hi=>?_;rw[a1m]at hi;rw[atb hi];refine a0h bmu fun k hk=>?_
 grind
def apc (hl0:∀r,r∈l0->r.length=N) {a b:Rw} {s:AS} (h:zk a b s=true):AgE (LE N p m l0) a b s:=fun i hi hs=>by
 rw[of_decide_eq_true h i hi hs];exact(a5n hl0).refl _
theorem gk {α:Type} [Inhabited α] {l:List α} {i:Nat} (h:i<l.length):l.getD i default∈l:=by
 grind
theorem awn {a b:Rw} {s:AS} (hl:a.length=b.length) {z:Int} (hz:z∈j8 a b s):z∈a\/z∈b:=by
 unfold j8 at hz
 grind
def b86(l:List Rw)(p m:List Fd)(s:St):Prop:=s.2.2.1<l.length/\s.2.2.2<l.length/\(s.1=false->s.2.1<p.length)/\(s.1=true->s.2.1<m.length)
theorem Ch.app (hl0:∀r,r∈l0->r.length=n.toNat) (hT:tok n l=true) (hp:p.all (inU n)=true) (h:Ch n.toNat p m l0 l σ) {s:St} (hs:b86 l p m s) (he:(jc n l p m s).2.2=0) :
 (jc n l p m s).1=n/\∃σ',Ch n.toNat p m l0 (jc n l p m s).2.1 σ':=by
 obtain⟨mu,i,a,b⟩:=s;obtain⟨ha,hb,hf,hv⟩:=hs;obtain⟨h0,h1,h2,h3⟩:=a14 hT;have ha:a<l.length:=ha;have hb:b<l.length:=hb;have hra:=h3 a ha;have hrb:=h3 b hb
 cases mu with
 | false =>
  have hi:i<p.length:=hf rfl;have e0:jc n l p m (false,i,a,b)=fdE n l a b (p.getD i default):=rfl;rw[e0]at he ⊢;by_cases hg:zk (l.getD a default) (l.getD b default) (p.getD i default).lhs=true
  · have e1:fdE n l a b (p.getD i default)=(n,dh (gi l (Go.Hx.eqMs (y6 l) a b (bc (p.getD i default).rhs))),0):=if_pos hg
    rw[e1];refine⟨rfl, ?_⟩;have hu:inU n (p.getD i default)=true:=bjr.1 hp _ (gk hi);have hm:=a5n (p:=p) (m:=m) hl0;have hR:=hm.fd (gk hi) (h.rows _ (gk ha)) (h.rows _ (gk hb)) (apc hl0 hg)
    obtain ⟨σ',hσ⟩:=Ch.eqMs (p:=p) (m:=m) hl0 ha hb (js:=bc (p.getD i default).rhs) (M:=y6 l) (σ:=σ) (by rw[akz];exact h) fun j hj=>by
     have h4:=an0 h0 h1 hu hj;have h5:=un.1 hj;refine⟨Nat.lt_of_lt_of_eq h4 hra.symm,Nat.lt_of_lt_of_eq h4 hrb.symm,hR j (Nat.lt_of_lt_of_eq h4 hra.symm) (by rw[tc h5.1];exact h5.2)⟩
    exact⟨σ',hσ.congr fun r=>fw⟩
  have e1:fdE n l a b (p.getD i default)=(0,[],1):=if_neg hg
  grind
 | true =>
  have hi:i<m.length:=hv rfl;have e0:jc n l p m (true,i,a,b)=mvE n l a b (m.getD i default):=rfl;rw[e0]at he ⊢;by_cases hg:zk (l.getD a default) (l.getD b default) (m.getD i default).lhs=true
  · have e1:mvE n l a b (m.getD i default)=a57 n l (j8 (l.getD a default) (l.getD b default) ((m.getD i default).lhs|||(m.getD i default).rhs)):=if_pos hg
    rw[e1]at he ⊢;by_cases hbig:256<(dh (l++[j8 (l.getD a default) (l.getD b default) ((m.getD i default).lhs|||(m.getD i default).rhs)])).length
    · have e2:a57 n l (j8 (l.getD a default) (l.getD b default) ((m.getD i default).lhs|||(m.getD i default).rhs))=(0,[],3):=if_pos hbig
      grind
    have e2:a57 n l (j8 (l.getD a default) (l.getD b default) ((m.getD i default).lhs|||(m.getD i default).rhs))=(n,dh (l++[j8 (l.getD a default) (l.getD b default) ((m.getD i default).lhs|||(m.getD i default).rhs)]),0):=if_neg hbig;rw[e2];refine⟨rfl,σ, ?_⟩;have hm:=a5n (p:=p) (m:=m) hl0;have hR:=hm.mv (gk hi) (h.rows _ (gk ha)) (h.rows _ (gk hb)) (apc hl0 hg);refine⟨fun r hr=>?_,h.sym,fun r hr=>fw.2 (bja _ (h.img r hr)),fun r hr z hz=>?_,h.le⟩
    · rcases bj1.1 (fw.1 hr)with h4|h4
      · exact h.rows r h4
      grind
    rcases bj1.1 (fw.1 hr)with h4|h4
    · exact h.fix r h4 z hz
    rw[bjb.1 h4]at hz
    rcases awn bmq hz with h5|h5
    · exact h.fix _ (gk ha) z h5
    exact h.fix _ (gk hb) z h5
  have e1:mvE n l a b (m.getD i default)=(0,[],1):=if_neg hg
  grind
def aa6 {P:Nat->Nat->Nat->Bool} {I L:Nat} (h:a42 P I L=none) {i a b:Nat} (hi:i<I) (ha:a<L) (hb:b<L):P i a b=false:=by
 unfold a42 at h;simp_all
def as5 (h:yf l p m=none):(∀i,i<p.length->∀a,a<l.length->∀b,b<l.length->yb l (p.getD i default) a b=false)/\∀i,i<m.length->∀a,a<l.length->∀b,b<l.length->vt l (m.getD i default) a b=false:=by
 unfold yf at h;split at h
 · cases h
 rename_i e;rw[Option.map_eq_none_iff]at h;exact⟨fun i hi a ha b hb=>aa6 (P:=fun i a b=>yb l (p.getD i default) a b) e hi ha hb,fun i hi a ha b hb=>aa6 (P:=fun i a b=>vt l (m.getD i default) a b) h hi ha hb⟩
def xo {α:Type} [Inhabited α] {l:List α} {x:α} (h:x∈l):∃i,i<l.length/\l.getD i default=x:=by
 obtain⟨i,hi,rfl⟩:=bj7 h;exact⟨i,hi,by rw[bir,bik hi];rfl⟩
theorem aw9 {a b:Rw} {s:AS} (hl:a.length=b.length):j8 (a.map f) (b.map f) s=(j8 a b s).map f:=by
 unfold j8;rw[List.map_map,bjf];refine List.map_congr_left fun i hi=>?_
 grind
theorem Ch.mdl (hT:tok n l=true) (hn:yf l p m=none) (σ:Int->Int):Mdl n.toNat p m (fun x y=>σ x=σ y) (fun r=>r.length=n.toNat/\r.map σ∈l):=by
 obtain⟨hF,hM⟩:=as5 hn;refine⟨fun _=>rfl,fun h=>h.symm,fun h k=>h.trans k,fun h=>h.1,fun {r r'} h e h2=>⟨e.trans h.1, ?_⟩,fun {x} hx {a b} ha hb hl i hi hs=>?_,fun {x} hx {a b} ha hb hl=>⟨(t8 _ _ _).trans hb.1, ?_⟩⟩
 · have:r'.map σ=r.map σ:=by
    refine a0h (by simp[e]) fun i hi=>?_
    grind
   grind
 · obtain ⟨k,hk,rfl⟩:=xo hx
   obtain⟨ia,hia,ea⟩:=xo ha.2;obtain⟨ib,hib,eb⟩:=xo hb.2;have h1:=hF k hk ia hia ib hib;unfold yb at h1;rw[ea,eb,aic (fun j hj hs=>by rw[bjf]at hj;rw[xq hj,xq (by rw[hb.1,<- ha.1];exact hj)];exact hl j hj hs),Bool.true_and,Bool.not_eq_false']at h1;have h2:=of_decide_eq_true h1 i (by rw[bjf];exact hi) hs
   grind
 obtain⟨k,hk,rfl⟩:=xo hx;obtain⟨ia,hia,ea⟩:=xo ha.2;obtain⟨ib,hib,eb⟩:=xo hb.2;have h1:=hM k hk ia hia ib hib;unfold vt at h1;rw[ea,eb,aic (fun j hj hs=>by rw[bjf]at hj;rw[xq hj,xq (by rw[hb.1,<- ha.1];exact hj)];exact hl j hj hs),Bool.true_and,Bool.not_eq_false']at h1;obtain⟨r,hr,e⟩:=blh.1 h1;rw[<- aw9 (by rw[ha.1,hb.1]),<- of_decide_eq_true e];exact hr
theorem Ch.has (h:Ch n.toNat p m l0 l σ) (hT:tok n l=true) (hl0:∀r,r∈l0->r.length=n.toNat) (hn:yf l p m=none):(∀x y,LE n.toNat p m l0 x y->σ x=σ y)/\∀r,LR n.toNat p m l0 r->r.map σ∈l:=by
 have hm:=Ch.mdl (p:=p) (m:=m) hT hn σ;have hl:∀r,r∈l0->r.length=n.toNat/\r.map σ∈l:=fun r hr=>⟨hl0 r hr,h.img r hr⟩;exact⟨fun x y e=>e _ _ hm hl,fun r e=>(e _ _ hm hl).2⟩
def ac5:∀{r:Rw},(∀z,z∈r->f z=z)->r.map f=r
 | [],_=>rfl
 |z::r,h=>by rw[bk4,h z bmu,ac5 fun y hy=>h y (by simp[hy])]
theorem Ch.mem (h:Ch n.toNat p m l0 l σ) (hT:tok n l=true) (hl0:∀r,r∈l0->r.length=n.toNat) (hn:yf l p m=none) {r:Rw}:r∈l<->LR n.toNat p m l0 r/\r.map σ=r:=by
 constructor
 · intro hr
   exact⟨h.rows r hr,ac5 (h.fix r hr)⟩
 rintro⟨h1,h2⟩;rw[<- h2];exact(h.has hT hl0 hn).2 r h1
end
end
end
section
def bd0:List (List Int)->List Rw
 | []=>[[]]
 |c::cs=>c.flatMap fun z=>(bd0 cs).map fun r=>z::r
section
variable {N:Nat}{p m:List Fd}{l0 l:List Rw}
def anr {a b:Rw} {s:AS} {i:Nat} (h:i<b.length):(j8 a b s).getD i default=if ir s (i:Int)=true then a.getD i default else b.getD i default:=by
 unfold j8;rw[bir,bjl,bkj h];rfl
def awg (C:Nat->List Int) (hd:∀i j z,z∈C i->z∈C j->i=j):Mdl N p m (fun x y=>x=y\/∃i,x∈C i/\y∈C i) (fun r=>r.length=N/\∀i,i<N->r.getD i default∈C i) where
 refl _:=.inl rfl
 symm h:=by
  rcases h with h|⟨i,h,k⟩
  · exact .inl h.symm
  exact .inr ⟨i,k,h⟩
 trans h h2:=by
  rcases h with h|⟨i,h,k⟩
  · rw[h];exact h2
  rcases h2 with h2|⟨j,h2,k2⟩
  · rw[<- h2];exact .inr ⟨i,h,k⟩
  have:=hd i j _ k h2;subst this;exact .inr ⟨i,h,k2⟩
 len h:=h.1
 cong h e h2:=⟨e.trans h.1,fun i hi=>by
  have h3:=h.2 i hi
  rcases h2 i (by rw[h.1];exact hi)with h4|⟨j,h4,h5⟩
  · rw[<- h4];exact h3
  have:=hd i j _ h3 h4;subst this
  exact h5⟩
 fd _ a b ha hb _:=fun i hi _=>.inr ⟨i,ha.2 i (by rw[<- ha.1];exact hi),hb.2 i (by rw[<- ha.1];exact hi)⟩
 mv _ a b ha hb _:=⟨(t8 _ _ _).trans hb.1,fun i hi=>by
  rw[anr (by rw[hb.1];exact hi)];split
  · exact ha.2 i hi
  exact hb.2 i hi⟩
def aot:Mdl N p m (fun x y=>0<=x<->0<=y) (fun r=>r.length=N/\∀i,i<r.length->0<=r.getD i default) where
 refl _:=Iff.rfl
 symm h:=h.symm
 trans h h2:=h.trans h2
 len h:=h.1
 cong h e h2:=⟨e.trans h.1,fun i hi=>(h2 i bmq).1 (h.2 i bmq)⟩
 fd _ a b ha hb _:=fun i hi _=>⟨fun _=>hb.2 i (by rw[hb.1,<- ha.1];exact hi),fun _=>ha.2 i hi⟩
 mv _ a b ha hb _:=⟨(t8 _ _ _).trans hb.1,fun i hi=>by
  rw[t8]at hi;rw[anr hi];split
  · exact ha.2 i (by rw[ha.1,<- hb.1];exact hi)
  exact hb.2 i hi⟩
def apu(N:Nat)(p m:List Fd)(l0:List Rw):Prop:=∀l,p9 l->(∀r,r∈l->LR N p m l0 r)->l.length<=256
end
section
variable {p m:List Fd}{l0 l:List Rw}{n:Int}{σ:Int->Int}
def b7r (h0:tok n l0=true) (hS:apu n.toNat p m l0) (ho:p9 l) (h:∀r,r∈l->LR n.toNat p m l0 r):tok n l=true:=by
 obtain⟨h1,h2,_⟩:=a14 h0;refine as4 h1 h2 (hS l ho h) (fun r hr=>?_) ho;have h3:=h r hr _ _ aot fun r0 hr0=>⟨(w9 h0 r0 hr0).1,fun i hi=>(w9 h0 r0 hr0).2 _ (gk hi)⟩;refine⟨h3.1,fun z hz=>?_⟩;obtain⟨i,hi,rfl⟩:=xo hz;exact h3.2 i hi
def ay7{s:St}(h:(jc n l p m s).2.2=0):p9 (jc n l p m s).2.1:=by
 unfold jc at *;split at h
 · rename_i e
   rw[if_pos e];unfold mvE a57 at *;split at h
   · rename_i e2
     rw[if_pos e2];split at h
     · exact absurd h bmx
     rename_i e3;rw[if_neg e3];exact sh _
   exact absurd h bmx
 rename_i e;rw[if_neg e];unfold fdE at *;split at h
 · rename_i e2
   rw[if_pos e2];exact sh _
 exact absurd h bmx
theorem Ch.step (h0:tok n l0=true) (hS:apu n.toNat p m l0) (hp:p.all (inU n)=true) (hT:tok n l=true) (h:Ch n.toNat p m l0 l σ) {s:St} (hs:b86 l p m s) (he:(jc n l p m s).2.2=0) :
 ∃l' σ',jc n l p m s=(n,l',0)/\tok n l'=true/\Ch n.toNat p m l0 l' σ':=by
 obtain⟨h1,σ',h2⟩:=Ch.app (fun r hr=>(w9 h0 r hr).1) hT hp h hs he;have h3:=b7r h0 hS (ay7 he) h2.rows;refine⟨_,σ', ?_,h3,h2⟩
 conv=>lhs;rw[<- Prod.eta (jc n l p m s),<- Prod.eta (jc n l p m s).2,h1,he]
theorem Ch.code (h0:tok n l0=true) (hS:apu n.toNat p m l0) (hp:p.all (inU n)=true) (hT:tok n l=true) (h:Ch n.toNat p m l0 l σ) {s:St} (hs:av7 l p m s):(jc n l p m s).2.2=0:=by
 rcases b5w hT hp hs with e|⟨l',e,_⟩
 · obtain ⟨mu,i,a,b⟩:=s
   obtain⟨ha,hb,hs|hs⟩:=hs
   · obtain ⟨h1,h2,h3⟩:=hs
     cases h1;have h4:jc n l p m (false,i,a,b)=fdE n l a b (p.getD i default):=rfl;have hg:=(azp hT (bjr.1 hp _ (gk h2)) ha hb h3).1;have hg:fdE n l a b (p.getD i default)=(n,fdL l a b (p.getD i default),0):=hg;rw[h4,hg]at e ⊢
   obtain⟨h1,h2,h3⟩:=hs;cases h1;have h4:jc n l p m (true,i,a,b)=mvE n l a b (m.getD i default):=rfl;have h5:vt l (m.getD i default) a b=true:=h3;unfold vt at h5;rw[biw]at h5;have h6:mvE n l a b (m.getD i default)=a57 n l (j8 (l.getD a default) (l.getD b default) ((m.getD i default).lhs|||(m.getD i default).rhs)):=if_pos h5.1;have hl0:∀r,r∈l0->r.length=n.toNat:=fun r hr=>(w9 h0 r hr).1
   have h7:=hS (dh (l++[j8 (l.getD a default) (l.getD b default) ((m.getD i default).lhs|||(m.getD i default).rhs)])) (sh _) fun r hr=>by
    rcases bj1.1 (fw.1 hr)with h8|h8
    · exact h.rows r h8
    rw[bjb.1 h8];exact(a5n hl0).mv (gk h2) (h.rows _ (gk ha)) (h.rows _ (gk hb)) (apc hl0 h5.1)
   rw[h4,h6];unfold a57;rw[if_neg bmq]
 rw[e]
def TrZ (n:Int) (p m:List Fd) (lend:List Rw):List Rw->List St->Prop
 |l,[]=>l=lend
 |l,s::r=>tok n l=true/\av7 l p m s/\∃l',jc n l p m s=(n,l',0)/\¬l'=l/\TrZ n p m lend l' r
end
def stC(n:Int)(ps:List AS)(c:Nat):List Int:=if c<n.toNat then(List.range ps.length).map fun i=>stV n i (ps.getD i default) c else[]
section
variable {n:Int}{ps:List AS}{p m:List Fd}
def b1l (h0:0<=n) {i c:Nat} {q:AS} (hc:c<n.toNat):stV n i q c%n=(c:Int):=by
 unfold stV;split
 · exact Int.emod_eq_of_lt bmq bmq
 have e:n+(i:Int)*n+(c:Int)=(c:Int)+n*(1+(i:Int)):=by rw[Int.mul_add,Int.mul_one,Int.mul_comm (i:Int) n];omega
 rw[e,Int.add_mul_emod_self_left];exact Int.emod_eq_of_lt bmq bmq
def adt(h0:0<=n){c:Nat}{z:Int}(h:z∈stC n ps c):c<n.toNat/\z%n=(c:Int):=by
 unfold stC at h;split at h
 · rename_i hc
   obtain⟨i,_,rfl⟩:=bj3.1 h;exact⟨hc,b1l h0 hc⟩
 simp at h
def b32 (h0:0<=n):∀i j z,z∈stC n ps i->z∈stC n ps j->i=j:=fun i j z h k=>by
 have h1:=(adt h0 h).2;have h2:=(adt h0 k).2;omega
def aph {r:Rw} (hr:r∈md n ps):r.length=n.toNat/\∀i,i<n.toNat->r.getD i default∈stC n ps i:=by
 unfold md at hr;obtain⟨k,hk,rfl⟩:=bj3.1 hr;refine⟨b3d _ _ _,fun i hi=>?_⟩;rw[b94 hi];unfold stC;rw[if_pos hi];exact bj3.2 ⟨k,hk,rfl⟩
end
end
section
section
variable {n:Int}{ps:List AS}{p m:List Fd}{l l0:List Rw}{σ:Int->Int}
def b74(h0:0<=n){c:Nat}{z:Int}(h:z∈stC n ps c):z=(c:Int)\/n<=z:=by
 unfold stC at h;split at h
 · obtain ⟨i,_,rfl⟩:=bj3.1 h
   unfold stV;split
   · exact .inl rfl
   right;have:=Int.mul_nonneg (show(0:Int)<=(i:Int) by omega) h0;omega
 simp at h
theorem Ch.first (h0:0<=n) (h:Ch n.toNat p m (dh (md n ps)) l σ):(a1b n).map σ=a1b n:=by
 refine ac5 fun z hz=>?_;unfold a1b at hz;obtain⟨c,hc,rfl⟩:=bj3.1 hz;have hc:=bje.1 hc;have h1:=h.sym (c:Int) _ _ (awg (stC n ps) (b32 h0)) fun r hr=>aph (fw.1 hr)
 rcases h1 with h1|⟨i,h1,h2⟩
 · exact h1.symm
 have h3:=(adt h0 h1).2;have h4:=Int.emod_eq_of_lt (a:=(c:Int)) (b:=n) bmq bmq;have h5:i=c:=by omega
 subst h5;have h6:=h.le (i:Int)
 rcases b74 h0 h2 with h7|h7
 · exact h7
 omega
def swI(n z:Int):Int:=if n<=z/\z<2*n then z+n else if 2*n<=z/\z<3*n then z-n else z
abbrev bgw(n:Int)(x:Fd):Fd:=⟨x.lhs,aj n&&&~~~(x.lhs|||x.rhs)⟩
end
end
section
section
variable {n:Int}{p m:List Fd}{l0 l:List Rw}{σ:Int->Int}
def trL (n:Int) (p m:List Fd):List Rw->List St->List (List Rw)
 |l,[]=>[l]
 |l,s::r=>l::trL n p m (jc n l p m s).2.1 r
end
section
variable {n:Int}{ps:List AS}{p m:List Fd}
end
end
section
section
variable {n:Int}{l:List Fd}
def b2b (h:cg n l=0):∀f∈l,sub f.lhs (aj n)/\sub f.rhs (aj n):=fun f hf=>by
 obtain⟨h0,h1,_,h3⟩:=n7 h;exact(am8 h0 h1).1 (bjr.1 h3 f hf)
def al1(h:cg n l=0):qs l (aj n):=fun f hf _=>(b2b h f hf).2
def axn(h:cg n l=0){x:AS}(hx:sub x (aj n)):sub (clo l x) (aj n):=a3b (al1 h) hx
end
def zb {α β:Type} [Inhabited α] {f:α->β} {l:List α} {i:Nat} (h:i<l.length):(l.take (i+1)).map f=(l.take i).map f++[f (l.getD i default)]:=by
 rw[ar h,bju];rfl
structure Dps where
 n:BitVec 8
 l:List Dp
deriving Inhabited
def Dps.num(d:Dps):Int:=((d.n.toNat%7:Nat):Int)
def Dps.fds(d:Dps):List Fd:=d.l.map (Dp.fd d.num)
def Dps.c (d:Dps):Nat->PV
 |0=>.raw (.int .u8 (d.n.toNat:Int))
 |1=>dpl d.l
 |_=>.any
abbrev Dps.pc(d:Dps):PC:=.agg [d.c 0,d.c 1]
end
section
def noA(s:AS)(a:Nat):AS:=s&&&~~~((1:AS)<<<a)
def aoj (s:AS) (a:Nat) {b:Int} (h:b.toNat=a):d6 .andNot .u32 (asI s) (IntKind.wrap .u32 (1*2^(min b.toNat 32)))=asI (noA s a):=by
 rw[h];exact a68 s a
def arh(n:Int)(l:List Fd)(s:AS)(a:Nat):AS:=if mw n l (noA s a)=true then noA s a else s
def ou(n:Int)(l:List Fd)(s:AS)(k:Nat):AS:=(List.range k).foldl (fun s j=>arh n l s (n.toNat-1-j)) s
def aas (n:Int) (l:List Fd) (s:AS) (k:Nat):ou n l s (k+1)=arh n l (ou n l s k) (n.toNat-1-k):=by
 unfold ou;rw[bjj,bj8];rfl
section
variable {l:List Fd}{n:Int}{s:AS}
def am7 {k:Nat} (h:mw n l (noA (ou n l s k) (n.toNat-1-k))=true):ou n l s (k+1)=noA (ou n l s k) (n.toNat-1-k):=by
 rw[aas];exact if_pos h
def ann {k:Nat} (h:mw n l (noA (ou n l s k) (n.toNat-1-k))=false):ou n l s (k+1)=ou n l s k:=by
 rw[aas];exact if_neg (by rw[h];decide)
def rkE(n:Int)(l:List Fd)(s:AS):Int:=if cg n l=0 then(if mw n l s=true then 0 else 1)else cg n l
def rkS(n:Int)(l:List Fd)(s:AS):AS:=if rkE n l s=0 then ou n l s n.toNat else 0
def bf1 (h:¬cg n l=0):rkS n l s=0/\rkE n l s=cg n l:=by
 have e:rkE n l s=cg n l:=if_neg h;exact⟨if_neg (by rw[e];exact h),e⟩
def bdl (h:cg n l=0) (h2:mw n l s=false):rkS n l s=0/\rkE n l s=1:=by
 have e:rkE n l s=1:=by unfold rkE;rw[if_pos h,if_neg (by rw[h2];decide)]
 exact⟨if_neg (by rw[e];decide),e⟩
def b96 (h:cg n l=0) (h2:mw n l s=true):rkS n l s=ou n l s n.toNat/\rkE n l s=0:=by
 have e:rkE n l s=0:=by unfold rkE;rw[if_pos h,if_pos h2]
 exact⟨if_pos e,e⟩
def bay(n:Int)(l:List Fd)(s:AS):Bool:=mw n l s&&(List.range n.toNat).all fun a=>!(s.getLsbD a&&mw n l (noA s a))
def bb5(n:Int)(l:List Fd)(i:Nat):List AS:=((List.range i).map (BitVec.ofNat 32)).filter (bay n l)
def az4(n:Int)(l:List Fd):List AS:=if cg n l=0 then ord (bb5 n l (2^n.toNat)) else[]
end
end
section
open Go.Proofs
def b9o:a6 bnb 71:=wgx Tryz.func71
def b1f(n:Int)(l:List Fd)(s:AS):aa bnb 71 [pI n,pP (fdl l),pA s] (ag [pA (rkS n l s),pI (rkE n l s)]):=by
 refine hpx (nt:=38) Tryz.func71 ?_;refine db ?_;refine qcx a15 (abd n l) ?_;refine w_7 ?_;refine hcn ?_ ?_<;>intro h0
 · refine w_6 ?_;refine hrr ?_;have he:=bf1 (s:=s) h0;exact f9 rfl rfl (⟨cci (congrArg asI he.1.symm),cci he.2.symm,trivial⟩)
 refine w_7 ?_;refine qcx agl (ap2 n l s) ?_;refine w_2 ?_;refine hcv ?_ ?_<;>intro h1
 · refine w_5 ?_;refine hrr ?_;have he:=bdl h0 bmr;exact f9 rfl rfl (⟨cci (congrArg asI he.1.symm),cci he.2.symm,trivial⟩)
 refine w_3 ?_;have hv:=n7 h0;refine w_6 ?_;refine bp (ka 0 (ka 1 kn)) km (fun k=>⟨[(2,some (vA (ou n l s k))),(9,some (vI (n-1-(k:Int))))],[]⟩) n.toNat ⟨⟨zy,⟨_,rfl,(coi bmq)⟩,trivial⟩,trivial⟩ ?_;rintro k hk;refine w_6 ?_;refine hcd ?_ ?_<;>intro h2
 ·
  refine xk ?_;refine rc rfl rfl rfl rfl rfl rfl agl (ap2 n l (noA (ou n l s k) (n.toNat-1-k))) (⟨CoC.refl _,CoC.refl _,cci (aoj _ _ bmq),trivial⟩) rfl rfl ?_;refine ce ?_;refine hcb ?_ ?_<;>intro h3
  ·
   refine w_9 ?_
   first | (refine lpz (k+1) ⟨⟨⟨_, rfl, (nk ((aoj _ (n.toNat-1-k) bmq).trans (congrArg asI (am7 bmr).symm)))⟩, ⟨_, rfl, (coi bmq)⟩, tt⟩, trivial⟩ ?_; show k+1<=_; omega)
         |(refine lpz (k+1) ⟨⟨⟨_,rfl,(nk (by rw[ann bmr]))⟩,⟨_,rfl,(coi bmq)⟩,tt⟩,trivial⟩ ?_;show k+1<=_;omega)
  refine w_6 ?_
  first | (refine lpz (k+1) ⟨⟨⟨_, rfl, (nk ((aoj _ (n.toNat-1-k) bmq).trans (congrArg asI (am7 bmr).symm)))⟩, ⟨_, rfl, (coi bmq)⟩, tt⟩, trivial⟩ ?_; show k+1<=_; omega)
        |(refine lpz (k+1) ⟨⟨⟨_,rfl,(nk (by rw[ann bmr]))⟩,⟨_,rfl,(coi bmq)⟩,tt⟩,trivial⟩ ?_;show k+1<=_;omega)
 refine w_7 ?_;refine hrr ?_;have he:=b96 h0 bmr;obtain rfl:k=n.toNat:=by omega
 exact f9 rfl rfl (⟨cci (congrArg asI he.1.symm),cci he.2.symm,trivial⟩)
end
section
def bbe {n:Int} (h0:0<=n) (h1:n<=16):IntKind.wrap .i64 (1*2^min n.toNat IntKind.i64.bits)=((2^n.toNat:Nat):Int):=by
 have h2:2^n.toNat<=2^16:=bkv bmq bmq
 have e:(1:Int)*2^min n.toNat IntKind.i64.bits=((2^n.toNat:Nat):Int):=by
  rw[show min n.toNat IntKind.i64.bits=n.toNat from bjw (by show n.toNat<=64;omega),Int.natCast_pow,Int.one_mul];rfl
 rw[e];have h3:((2^n.toNat:Nat):Int)<=65536:=by omega
 have h4:0<=((2^n.toNat:Nat):Int):=bjp _;generalize ((2^n.toNat:Nat):Int)=z at *;exact qb (by simp only[inR,j9,jv];omega)
def bC:Bool->Nat->PV:=fun b _=>.raw (.bool b)
def axa(n:Int)(l:List Fd)(k:Nat):Bool:=decide (clo l (BitVec.ofNat 32 k)=aj n)
def ber(n:Int)(l:List Fd)(i:Nat):List Bool:=(List.range (2^n.toNat)).map fun k=>decide (k<i)&&axa n l k
def bib(n:Int)(l:List Fd):List Bool:=ber n l (2^n.toNat)
end
section
section
variable {n:Int}{l:List Fd}
def okA(n:Int)(l:List Fd)(i a:Nat):Bool:=axa n l i&&(List.range a).all fun b=>!(i.testBit b&&axa n l (i ^^^ 2^b))
section
variable {i a:Nat}(hv:cg n l=0)(hi:i<2^n.toNat)(ha:(a:Int)<n)(hx:i ^^^ 2^a<2^n.toNat)
include hv hi ha hx
end
end
end
section
def ao9 (s:AS):Nat->AS->List AS
 |0,_=>[]
 |n+1,x=>if x=0 then[]else x::ao9 s n ((x-1)&&&s)
def afn(s:AS):List AS:=0::ao9 s (s.toNat+1) s
def sub_zero(s:AS):sub 0 s:=er.2 fun i hi h=>by simp at h
def TsI(s:AS)(x:Nat×List AS×AS):Prop:=x.2.1++ao9 s x.1 x.2.2=afn s/\x.2.2.toNat<x.1/\x.2.1.length+x.1=s.toNat+2
def aj9(l:List Fd)(p s:AS):Bool:=decide (sub p (clo l s))
def bdw(l:List Fd)(p x:AS):Bool:=(List.range 32).all fun a=>!(x.getLsbD a&&aj9 l p (noA x a))
def bhb(l:List Fd)(p x r:AS):Prop:=sub r x/\∀a,a<32->x.getLsbD a=true->r.getLsbD a=true\/aj9 l p (noA x a)=false
def axd(l:List Fd)(p x:AS):Bool:=aj9 l p x&&bdw l p x
def asu(l:List Fd)(p:AS):AS:=orL ((afn p).filter (axd l p))
def bfi(l:List Fd)(p:AS)(i:Nat):AS:=orL (((afn p).take i).filter (axd l p))
end
section
def bia(l:List Fd)(p x:AS)(a:Nat):Bool:=(List.range a).all fun b=>!(x.getLsbD b&&aj9 l p (noA x b))
def bdz(i:Nat):List AS:=(List.range i).map (BitVec.ofNat 32)
def prQ(l:List Fd)(p x:AS):Bool:=decide (sub x p)&&axd l p x
def bfk(l:List Fd)(p:AS)(i:Nat):AS:=orL ((bdz i).filter (prQ l p))
section
variable {l:List Fd}{p:AS}{i:Nat}
end
def bfd(l:List Fd)(p x:AS):Bool:=!aj9 l p x&&decide (((clo l x&&&p)&&&~~~x)&&&~~~asu l p≠0)
def as8(l:List Fd)(p:AS):Bool:=!(afn p).any (bfd l p)
def bdr(n:Int)(l:List Fd)(p:AS):Int:=if cg n l=0 then(if sub p (aj n)then 0 else 1)else cg n l
def bgn(n:Int)(l:List Fd)(p:AS):Bool:=decide (bdr n l p=0)&&as8 l p
end
section
section
variable {n:Int}{l:List Fd}
def ax7 {n:Int} (h0:0<=n) (h1:n<=16) {k:Nat} (hk:k<32):(aj n).getLsbD k=decide (k<n.toNat):=by
 unfold aj;rw[ul _ k hk,bjw bmq]
def b6h(n:Int)(l:List Fd)(f:Fd):Bool:=decide (clo l f.lhs≠aj n)&&decide (f.rhs&&&~~~asu l (aj n)≠0)
def bgh(n:Int)(l:List Fd)(i:Nat):List Fd:=((zx n l).take i).filter (b6h n l)
def bg2(n:Int)(l:List Fd):List Fd:=(zx n l).filter (b6h n l)
def agp(n:Int)(l:List Fd):(zx n l).length<=2048:=by
 unfold zx;split
 · rename_i h
   have h1:=(n7 h).2.2.1;have h2:=aba l
   have h3:(aie l).length<=(a06 l).length:=by
    have:∀(f:Nat) (k:List Fd) (i:Nat),(sa f k i).length<=k.length:=by
     intro f
     induction f with
     |zero=>intro k i;exact bil _
     | succ f ih =>
      intro k i;unfold sa;split
      · rename_i hi
        split
        · exact bj2 (ih _ _) (by rw[lp hi];omega)
        exact ih _ _
      exact bil _
    exact this _ _ _
   omega
 simp
end
end
section
def bep(l:List Fd)(pr k:AS):Bool:=(List.range 32).all fun a=>!k.getLsbD a||decide (sub (clo l (noA k a)) pr)
def bf2(n:Int)(l:List Fd):Bool:=(az4 n l).all (bep l (orL (az4 n l)))
def bie(n:Int)(l:List Fd):Bool:=decide (cg n l=0)&&bf2 n l
section
variable {l:List Fd}{pr k:AS}
def bha(l:List Fd)(pr k r:AS):Prop:=sub r k/\∀a,a<32->k.getLsbD a=true->r.getLsbD a=true\/sub (clo l (noA k a)) pr
def bi3(l:List Fd)(pr k:AS)(s:Nat):Prop:=∀j,j<s->sub (BitVec.ofNat 32 j) k->sub (clo l (BitVec.ofNat 32 j)) pr
end
section
variable {n:Int}{l:List Fd}
end
end
section
def mgR(l:List Fd)(s:AS):AS:=(l.filter fun f=>decide (f.lhs=s)).foldl (fun a f=>a|||f.rhs) 0
def mgF(l:List Fd)(s:AS):Fd:=⟨s,mgR l s⟩
def acb(l:List Fd):List Fd:=(ord (l.map Fd.lhs)).map (mgF l)
def bd1 {l:List Fd} {s:AS} {i:Nat} (hi:i<l.length) (h:(l.getD i default).lhs=s):mgR (l.take (i+1)) s=mgR (l.take i) s|||(l.getD i default).rhs:=by
 unfold mgR;rw[ar hi,bk8,bj8];simp only[bki,h,decide_true,if_true,blu,blq,List.foldl_nil]
def bbx {l:List Fd} {s:AS} {i:Nat} (hi:i<l.length) (h:¬(l.getD i default).lhs=s):mgR (l.take (i+1)) s=mgR (l.take i) s:=by
 unfold mgR;rw[ar hi,bk8,bj8];simp only[bki,h,decide_false,blp,if_false,blu,List.foldl_nil]
def bee {l:List Fd} {s:AS} {i:Nat} (hi:i<l.length) (h:asI (l.getD i default).lhs=asI s):PV.raw (.int .u32 (d6 .or .u32 (asI (mgR (l.take i) s)) (asI (l.getD i default).rhs)))=asC (mgR (l.take (i+1)) s):=by
 rw[bOr,bd1 hi (dq.1 h)];rfl
def ay9 (l:List Fd):(acb l).length<=l.length:=by
 unfold acb;rw[bjf];exact bj2 (w4 _) (by rw[bjf];exact bil _)
end
section
open Go.Proofs
def bfr(t:AS)(l:List Fd):Prop:=∀x∈l,sub x.rhs t
def i6(n:Int)(l:List Fd):List Fd:=acb (zx n l)
def akh(n:Int)(l:List Fd):(i6 n l).length<=2048:=bj2 (ay9 _) (agp n l)
def pt(f:Fd):AS:=f.lhs|||f.rhs
section
variable {n:Int}{l:List Fd}
def mr(n:Int)(l:List Fd)(i:Nat):Bool:=((i6 n l).take i).any fun f=>mw n l (pt f)
def a2f {i:Nat} (hi:i<(i6 n l).length):mr n l (i+1)=(mr n l i||mw n l (pt ((i6 n l).getD i default))):=by
 unfold mr;rw[ar hi,List.any_append];simp
def ast(h:cg n l=0):mw n l (aj n)=true:=decide_eq_true ⟨h,oe _,nx (axn h (oe _)) akc⟩
def b3z(h:cg n l=0):rkE n l (aj n)=0:=(b96 h (ast h)).2
def a9f(n:Int)(l:List Fd):List AS:=(i6 n l).map pt
def b6i(n:Int)(l:List Fd):List AS:=nf (if mr n l (i6 n l).length=true then a9f n l else a9f n l++[rkS n l (aj n)])
def ahv(n:Int)(l:List Fd):List AS:=if cg n l=0 then b6i n l else[]
def b8u(h:¬cg n l=0):ahv n l=[]:=if_neg h
def b54(h:cg n l=0):ahv n l=b6i n l:=if_pos h
def axw(n:Int)(l:List Fd):(a9f n l).length<=2048:=by unfold a9f;rw[bjf];exact akh n l
def ae7(n:Int)(l:List Fd):((i6 n l).take (i6 n l).length).map pt=a9f n l:=by rw[biz];rfl
def a3g(n:Int)(l:List Fd):List AS:=if mr n l (i6 n l).length=true then a9f n l else a9f n l++[rkS n l (aj n)]
def a0o(h:mr n l (i6 n l).length=true):a3g n l=((i6 n l).take (i6 n l).length).map pt:=by rw[ae7];exact if_pos h
def aaa(h:mr n l (i6 n l).length=false):a3g n l=((i6 n l).take (i6 n l).length).map pt++[rkS n l (aj n)]:=by rw[ae7];exact if_neg (by rw[h];decide)
def avv (n:Int) (l:List Fd):(a3g n l).length<=4096:=by
 have:=axw n l;unfold a3g;split
 · omega
 rw[biq,bkz];omega
def ays{i:Nat}(hi:i<(i6 n l).length)(h:mr n l i=true):true=mr n l (i+1):=by rw[a2f hi,h];rfl
def aym{i:Nat}(hi:i<(i6 n l).length)(h:mr n l i=false):mw n l (pt ((i6 n l).getD i default))=mr n l (i+1):=by rw[a2f hi,h];rfl
def az1{i:Nat}(hi:i<(i6 n l).length):(bif mr n l i then true else mw n l (pt ((i6 n l).getD i default)))=mr n l (i+1):=by rw[a2f hi];cases mr n l i<;>rfl
end
end
section
open Go.Proofs
def b3f:a6 bnb 126:=wgx Tryz.func126
def b4k:a6 bnb 69:=wgx Tryz.func69
def b9n (hM:∀k:List Fd,k.length<=16777216->aa bnb 126 [pP (fdl k)] (ag [pP (fdl (acb k))])) (n:Int) (l:List Fd):aa bnb 69 [pI n,pP (fdl l)] (ag [pP (fdl (i6 n l)),pI (cg n l)]):=by
 refine hpx (nt:=17) Tryz.func69 ?_;refine w_9 ?_;refine qcx b4h (bcr n l) ?_;refine w_7 ?_;have hml:=agp n l;refine w_2 ?_;refine qcx b3f (hM (zx n l) bmq) ?_;refine v_4 ?_;exact CoL.refl _
def b69:a6 bnb 23:=wgx Tryz.func23
def b0l(hM:∀k:List Fd,k.length<=16777216->aa bnb 126 [pP (fdl k)] (ag [pP (fdl (acb k))]))(n:Int)(l:List Fd):aa bnb 23 [pI n,pP (fdl l)] (ag [pP (asl (ahv n l)),pI (cg n l)]):=by
 refine hpx (nt:=66) Tryz.func23 ?_;refine w_9 ?_;refine qcx b4k (b9n hM n l) ?_;refine gz ?_;refine hcn ?_ ?_<;>intro h0
 · refine v_6 ?_;exact⟨CoC.one (b5k (b8u h0)),CoC.refl _,trivial⟩
 refine w_2 ?_;have hv:=n7 h0;have hcl:=akh n l;have hsl:=avv n l;refine ic ?_;refine d4 8 900 true 1 35 (lf sC []) bmx rfl (CoP.sl rfl (.inr rfl) (fun h=>h) (fun i j hi _=>absurd hi (bip i))) (.inr rfl) rfl ?_;refine bp (ka 0 (ka 1 (ka 24 (ka 25 kn)))) km (fun i=>⟨[(8,some (.v (.one (.ref 900 (((i6 n l).take i).map pt).length)))),(9,some (vB (mr n l i))),(26,some (vI i))],[(900,some (.arr true 1 35 (((i6 n l).take i).map pt).length (lf sC (((i6 n l).take i).map pt))))]⟩) ((i6 n l).length) ⟨⟨zy,⟨_,rfl,(cob rfl)⟩,tt⟩,uu⟩ ?_;rintro i hi;have hlen:(((i6 n l).take i).map pt).length<=i:=by rw[bjf,bjc];omega
 refine w_5 ?_;refine hcd ?_ ?_<;>intro h1
 ·
  refine w_7 ?_;refine m9 0 ?_;refine ic ?_;refine m9 1 ?_;refine r9 2 true ?_;refine w_5 ?_;refine be rfl rfl ?_ ?_<;>intro r2
  ·
   have h2:=r2;(iterate 4 refine k9 (gtf r2) ?_);refine w_7 ?_
   exact lpx (i+1) ⟨⟨⟨_,rfl,(bq (zb bmq))⟩,⟨_,rfl,(cob (by first|exact ays (n:=n) (l:=l) (i:=i) bmq bmr|exact aym (n:=n) (l:=l) (i:=i) bmq bmr|exact az1 (n:=n) (l:=l) (i:=i) bmq))⟩,tt⟩,⟨⟨_,rfl,(bn (zb bmq) (CoP.of_eq (congrArg (fun z=>PV.raw (.int .u32 z)) (bOr _ _))))⟩,trivial⟩⟩
  have h2:=r2;(iterate 3 refine qy ?_ (hg:=(gff r2)));refine rc rfl rfl rfl rfl rfl rfl agl (ap2 n l (pt ((i6 n l).getD i default))) (⟨CoC.refl _,CoC.refl _,cci (bOr _ _),trivial⟩) rfl (gff r2) ?_;refine w_7 ?_
  exact lpx (i+1) ⟨⟨⟨_,rfl,(bq (zb bmq))⟩,⟨_,rfl,(cob (by first|exact ays (n:=n) (l:=l) (i:=i) bmq bmr|exact aym (n:=n) (l:=l) (i:=i) bmq bmr|exact az1 (n:=n) (l:=l) (i:=i) bmq))⟩,tt⟩,⟨⟨_,rfl,(bn (zb bmq) (CoP.of_eq (congrArg (fun z=>PV.raw (.int .u32 z)) (bOr _ _))))⟩,trivial⟩⟩
 obtain rfl:i=(i6 n l).length:=by omega
 refine eg ?_;refine aaz kn km ⟨[(8,some (.v (.one (.ref 900 (a3g n l).length))))],[(900,some (.arr true 1 35 (a3g n l).length (lf sC (a3g n l))))]⟩ ?_ ?_
 ·
  refine w_5 ?_;refine hcv ?_ ?_<;>intro h3
  ·
   refine w_5 ?_;refine qcx b97 (ba7 n hv.1 hv.2.1) ?_;refine qcx b9o (b1f n l (aj n)) ?_;refine gz ?_;refine hcn ?_ ?_<;>intro h4
   · exfalso;exact h4 (b3z h0)
   refine w_4 ?_;refine m9 3 ?_;refine r9 4 true ?_;refine w_2 ?_;exact⟨⟨⟨_,rfl,(by first|exact fe (by rw[a0o bmr])|exact fe (by rw[aaa bmr,biq];rfl))⟩,trivial⟩,⟨⟨_,rfl,(by first|exact ku (a0o bmr) (by rw[a0o bmr])|exact bn (aaa bmr) (CoP.refl _))⟩,trivial⟩⟩
  refine eu ?_;exact⟨⟨⟨_,rfl,(by first|exact fe (by rw[a0o bmr])|exact fe (by rw[aaa bmr,biq];rfl))⟩,trivial⟩,⟨⟨_,rfl,(by first|exact ku (a0o bmr) (by rw[a0o bmr])|exact bn (aaa bmr) (CoP.refl _))⟩,trivial⟩⟩
 refine f4 ?_;refine bh 8 rfl rfl rfl ?_;refine w_2 ?_;refine qcx aro (ah5 (a3g n l) bmq) ?_;refine v_3 ?_;exact⟨CoC.one (CoP.of_eq (by rw[b54 h0];rfl)),cci h0.symm,trivial⟩
end
section
def Eqv(l k:List Fd):Prop:=∀s,qs l s<->qs k s
theorem Eqv.refl(l:List Fd):Eqv l l:=fun s=>Iff.rfl
theorem Eqv.trans{a b c:List Fd}(h:Eqv a b)(k:Eqv b c):Eqv a c:=fun s=>(h s).trans (k s)
theorem Eqv.clo {l k:List Fd} (h:Eqv l k) (s:AS):clo l s=clo k s :=
 nx (a3b ((h _).2 a3d) akc) (a3b ((h _).1 a3d) akc)
end
section
def bfu(l:List Fd)(ps:List AS)(t:AS):Prop:=∀p∈ps,sub (clo l (t&&&p)&&&p) t
def bcl(l:List Fd)(s p:AS):AS:=s|||(clo l (s&&&p)&&&p)
def bfj(l:List Fd)(ps:List AS)(s:AS):AS:=ps.foldl (bcl l) s
def PrI(l:List Fd)(ps:List AS)(z s:AS):Prop:=sub z s/\sub s (avc l ps z)
def bhf(n:Int)(l:List Fd)(i:Nat):List AS:=((d8 (aj n)).take i).filter fun s=>!vv l s
end
section
def bfg(l:List Fd):Prop:=∀f∈l,∀i,i<32->f.rhs.getLsbD i=true->f.lhs.getLsbD i=false
section
variable {n:Int}{l:List Fd}
end
end
section
def aub(E:Int->Int->Prop)(R:Rw->Prop)(s:AS):Prop:=∃r,R r/\∀i:Nat,i<r.length->ir s (i:Int)=true->E (r.getD i default) (i:Int)
section
variable {N:Nat}{p m:List Fd}{E:Int->Int->Prop}{R:Rw->Prop}
def avp{s t:AS}(h:sub s t){i:Nat}(hi:ir s (i:Int)=true):ir t (i:Int)=true:=by
 by_cases hl:i<32
 · rw [tc hl]at hi ⊢
   exact er.1 h i hl hi
 rw[b78 bmq]at hi;cases hi
def aub.mono {s t:AS} (h:aub E R t) (hs:sub s t):aub E R s:=by
 obtain⟨r,h1,h2⟩:=h;exact⟨r,h1,fun i hi hh=>h2 i hi (avp hs hh)⟩
end
section
variable {n:Int}{p m:List Fd}{ps:List AS}
end
end
section
def lvE(n:Int)(ps:List AS):Int:=if n<0\/8<n then 7 else if 64<ps.length then 3 else if ps.length=0\/¬orL ps=aj n then 1 else 0
section
variable {n:Int}{ps:List AS}{p m:List Fd}
def lsT(n:Int)(ps:List AS)(p m:List Fd):List St×(Int×List Rw)×Int:=a9j FU n (dh (md n ps)) p m
def lsC(n:Int)(ps:List AS)(p m:List Fd):Int:=if lvE n ps=0 then(if zf n p m=0 then(lsT n ps p m).2.2 else zf n p m)else lvE n ps
def lsB(n:Int)(ps:List AS)(p m:List Fd):Bool:=decide (lsC n ps p m=0)&&(lsT n ps p m).2.1.2.any fun r=>decide (r=a1b n)
def bh2(n:Int)(p:List Fd)(ps:List AS):Bool:=lsB n ps p []&&!ps.any (vv p)
end
end
section
abbrev tbC(a:Int×List Rw):Nat->PV:=fun j=>[.raw (.int .i64 a.1),rl a.2].getD j .any
def lcR (n:Int) (ps:List AS) (p m:List Fd):(Int×List Rw)×List St×(Int×List Rw)×Int :=
 if lvE n ps=0 then(if zf n p m=0 then((n,dh (md n ps)),(lsT n ps p m).1,(lsT n ps p m).2.1,(lsT n ps p m).2.2) else((0,[]),[],(0,[]),zf n p m)) else((0,[]),[],(0,[]),lvE n ps)
section
variable {n:Int}{ps:List AS}{p m:List Fd}{l lend:List Rw}
def bai(n:Int)(p m:List Fd)(l:List Rw)(sts:List St):List (Int×List Rw):=(trL n p m l sts).map fun t=>(n,t)
def rcR (n:Int) (ps:List AS) (p m:List Fd):List St×List (Int×List Rw)×Int :=
 if lsC n ps p m=0 then((lsT n ps p m).1,bai n p m (dh (md n ps)) (lsT n ps p m).1,0) else([],[],lsC n ps p m)
def aow(n:Int)(t:List Rw):Bool:=t.any fun r=>decide (r=a1b n)
def prX(n:Int)(ps:List AS)(p m:List Fd):Int:=idx (fun a:Int×List Rw=>aow n a.2) (rcR n ps p m).2.1
def prC(n:Int)(ps:List AS)(p m:List Fd):Int:=if(rcR n ps p m).2.2=0 then(if prX n ps p m<0 then 11 else 0) else(rcR n ps p m).2.2
def prS(n:Int)(ps:List AS)(p m:List Fd):List St:=if(rcR n ps p m).2.2=0 then(if prX n ps p m<0 then[] else(rcR n ps p m).1.take (prX n ps p m).toNat) else[]
end
end
section
inductive Lf (l:List Fd):AS->AS->Prop
 |leaf {s:AS}:vv l s=false->Lf l s s
 |left {s q:AS}:vv l s=true->Lf l (spA l s) q->Lf l s q
 |right {s q:AS}:vv l s=true->Lf l (spB l s) q->Lf l s q
def b9y (l:List Fd):Nat->AS->List AS
 |0,s=>[s]
 |k+1,s=>if vv l s=true then b9y l k (spA l s)++b9y l k (spB l s) else[s]
end
section
open Go.Proofs
def u8A(b:BitVec 8):AS:=b.setWidth 32
abbrev u8C:BitVec 8->Nat->PV:=fun b _=>.raw (.int .u8 (b.toNat:Int))
end
section
open Go.Proofs Go.Proofs.YtmoggbnlhllhaaaGreatDoor
open Go.RowKit Go.ChangeShapes Go.WideShapes Go.ChangeAt
def rd5:Rd bnb 5 1 u8C:=(aza Tryz.underlying5).co (fun u=>u.toBitVec) fun a j hj=>CoP.refl _
end
section
def b9g{s:AS}{i:Nat}(h:s.getLsbD i=true):i<32:=BitVec.lt_of_getLsbD h
def awo{s t:AS}{i:Nat}(hi:i<32):(s&&&~~~t).getLsbD i=(s.getLsbD i&&!t.getLsbD i):=by simp[hi]
def b51(a:Nat):AS:=1#32<<<a
def xz(m:Fd)(b:AS):Bool:=decide (b&&&m.lhs=0)&&(decide (b&&&m.rhs≠0)&&decide (b&&&~~~m.rhs≠0))
def hdB(m:Fd)(b:AS):AS:=if xz m b=true then b&&&m.rhs else b
def tlB(m:Fd)(b:AS):List AS:=if xz m b=true then[b&&&~~~m.rhs] else[]
def stB(m:Fd)(l:List AS)(i:Nat):List AS:=(l.take i).map (hdB m)++l.drop i++(l.take i).flatMap (tlB m)
def rdB(m:Fd)(l:List AS):List AS:=l.map (hdB m)++l.flatMap (tlB m)
def b80(ms:List Fd)(l:List AS):List AS:=ms.foldl (fun l m=>rdB m l) l
def b9q:List Fd->List AS->Bool
 | [],_=>false
 |m::ms,l=>l.any (xz m)||b9q ms (rdB m l)
def aug (ms:List Fd):Nat->List AS->List AS
 |0,l=>l
 |f+1,l=>if b9q ms l=true then aug ms f (b80 ms l)else b80 ms l
def muB:List AS->Nat
 | []=>0
 |b::l=>b.toNat*b.toNat+muB l
def aye{m:Fd}{b:AS}:xz m b=true<->b&&&m.lhs=0/\b&&&m.rhs≠0/\b&&&~~~m.rhs≠0:=by simp[xz]
structure Blk (ms:List Fd) (rest:AS) (bs:List AS):Prop where
 nz:∀b∈bs,b≠0
 cnt:∀a,a<32->bs.countP (fun b=>b.getLsbD a)=if rest.getLsbD a=true then 1 else 0
 ind:∀G:AS->Prop,G rest->(∀m∈ms,∀b,G b->xz m b=true->G (b&&&m.rhs)/\G (b&&&~~~m.rhs))->∀b∈bs,G b
section
variable {bs:List AS}{ms:List Fd}{rest:AS}
theorem Blk.rd (h:Blk ms rest bs) {m:Fd} (hm:m∈ms):Blk ms rest (rdB m bs):=by
 have hmem:∀{b:AS},b∈rdB m bs->∃b0∈bs,(xz m b0=false/\b=b0)\/(xz m b0=true/\(b=b0&&&m.rhs\/b=b0&&&~~~m.rhs)):=by
  intro b hb;unfold rdB at hb
  rcases bj1.1 hb with hb|hb
  · obtain ⟨b0,h0,rfl⟩:=bj3.1 hb
    refine⟨b0,h0, ?_⟩;cases hs:xz m b0<;>simp[hdB,hs]
  obtain⟨b0,h0,hb⟩:=List.mem_flatMap.1 hb;refine⟨b0,h0, ?_⟩;cases hs:xz m b0
  · simp[tlB,hs]at hb
  simp[tlB,hs]at hb;exact .inr ⟨rfl, .inr hb⟩
 refine⟨fun b hb=>?_,fun a ha=>?_,fun G h0 hG b hb=>?_⟩
 · obtain ⟨b0,h0,⟨_,rfl⟩|⟨hs,hb⟩⟩:=hmem hb
   · exact h.nz _ h0
   obtain⟨_,h2,h3⟩:=aye.1 hs
   rcases hb with rfl|rfl
   · exact h2
   exact h3
 · rw [<- h.cnt a ha]
   have:∀l:List AS,(l.map (hdB m)).countP (fun b=>b.getLsbD a)+(l.flatMap (tlB m)).countP (fun b=>b.getLsbD a)=l.countP (fun b=>b.getLsbD a):=by
    intro l
    induction l with
    |nil=>rfl
    | cons b l ih =>
     rw[bk4,bmk,List.countP_append,bm5,bm5,<- ih];cases hs:xz m b
     · simp[hdB,tlB,hs];omega
     simp only[hdB,tlB,hs,if_true,bm5,List.countP_nil,awo ha,bk6];cases b.getLsbD a<;>cases m.rhs.getLsbD a<;>simp<;>omega
   unfold rdB;rw[List.countP_append];exact this bs
 obtain⟨b0,h1,⟨_,rfl⟩|⟨hs,hb⟩⟩:=hmem hb
 · exact h.ind G h0 hG _ h1
 obtain⟨g1,g2⟩:=hG m hm b0 (h.ind G h0 hG _ h1) hs
 rcases hb with rfl|rfl
 · exact g1
 exact g2
def ak0(rest:AS):List AS:=if rest=0 then[] else[rest]
theorem Blk.start (ms:List Fd) (rest:AS):Blk ms rest (ak0 rest):=by
 unfold ak0;by_cases h:rest=0
 · subst h
   simp only[if_true];exact⟨fun _ h=>by(cases h),fun a ha=>by simp,fun _ _ _ _ h=>by cases h⟩
 rw[if_neg h];exact⟨fun b hb=>by(simp at hb;subst hb;exact h),fun a ha=>by simp[bm5],fun G h0 _ b hb=>by(simp at hb;subst hb;exact h0)⟩
def blks(ms:List Fd)(rest:AS):List AS:=aug ms 18446744073709551616 (ak0 rest)
def aor {p:AS->Bool} {l:List AS} (h:l.countP p<=1) {a b:AS} (ha:a∈l) (hb:b∈l) (pa:p a=true) (pb:p b=true):a=b:=by
 rw[List.countP_eq_length_filter]at h;have h1:a∈l.filter p:=bix.2 ⟨ha,pa⟩;have h2:b∈l.filter p:=bix.2 ⟨hb,pb⟩
 cases hl:l.filter p with
 |nil=>rw[hl]at h1;cases h1
 | cons x r =>
  rw[hl]at h h1 h2
  cases r with
  |nil=>simp at h1 h2;rw[h1,h2]
  |cons=>simp at h
theorem Blk.one (h:Blk ms rest bs) {b b':AS} (hb:b∈bs) (hb':b'∈bs) {a:Nat} (h1:b.getLsbD a=true) (h2:b'.getLsbD a=true):b=b':=by
 refine aor (p:=fun b=>b.getLsbD a) ?_ hb hb' h1 h2;rw[h.cnt a (b9g h1)];split<;>omega
theorem Blk.sub (h:Blk ms rest bs) {b:AS} (hb:b∈bs):Go.Hx.sub b rest:=er.2 fun a ha hba=>by
 have h1:=h.cnt a ha;have h2:0<bs.countP (fun b=>b.getLsbD a):=List.countP_pos_iff.2 ⟨b,hb,hba⟩
 cases hr:rest.getLsbD a with
 |true=>rfl
 |false=>rw[hr]at h1;simp only[blp,if_false]at h1;omega
end
end
section
def sgl(f:Fd):List Fd:=(bc f.rhs).map fun a=>⟨f.lhs,b51 a⟩
def bcf(fs ms:List Fd):List Fd:=ms++fs.flatMap sgl
def aj7(T:List AS)(r:AS):List AS:=if r∈T then T else T++[r]
def apa {T:List AS} {r:AS} (h:T.Nodup):(aj7 T r).Nodup:=by
 unfold aj7;split
 · exact h
 rename_i hr;rw[bml];exact⟨h,by simp,fun a ha b hb=>by simp at hb;subst hb;rintro rfl;exact hr ha⟩
def bcz(s:AS)(o:List AS)(T:List AS):List AS:=T.foldl (fun o r=>aj7 o (r&&&~~~s)) o
def b63(T:List AS)(s:AS):List AS:=bcz s [] T
def b57(d:Fd)(r k:AS):AS:=(r&&&(d.lhs|||d.rhs))|||(k&&&~~~(d.lhs|||d.rhs))
def agB(d:Fd)(r k:AS):Bool:=decide ((r ^^^ k)&&&d.lhs=0)
structure bcx (fs ms:List Fd) (T:List AS):Prop where
 fd:∀d∈fs,∀r∈T,∀k∈T,agB d r k=true->(r ^^^ k)&&&d.rhs=0
 mv:∀d∈ms,∀r∈T,∀k∈T,agB d r k=true->b57 d r k∈T
def bcg(fs:List Fd)(bs:List AS)(a:Nat):Prop:=b51 a∈bs/\∃f∈fs,f.rhs.getLsbD a=true/\f.lhs.getLsbD a=false
structure JT (fs:List Fd) (bs:List AS) (rest:AS) (T:List AS):Prop where
 z:(0:AS)∈T
 r:∀r∈T,sub r rest/\∀b∈bs,b&&&r=0\/sub b r
 top:∃L∈T,(∀r∈T,sub r L)/\∀a,a<32->rest.getLsbD a=true->L.getLsbD a=false->bcg fs bs a
section
variable {fs ms:List Fd}{bs:List AS}{rest:AS}{T:List AS}
def bg7(T:List AS)(b:AS):Prop:=∀r∈T,∀k∈T,((r&&&b)|||(k&&&~~~b))∈T
structure bh7 (fs ms:List Fd) (bs:List AS) (rest:AS) (T:List AS):Prop where
 j:JT fs bs rest T
 c:bcx fs ms T
def qB(T:List AS)(L x rest y:AS):Prop:=y≠0/\sub y rest/\(L&&&~~~(x|||y))∈T
end
end
section
def b82:List AS->Nat
 | []=>0
 |b::l=>b.toNat+b82 l
def OkB(l:List AS):Prop:=b82 l<4294967296/\∀b∈l,b≠0
def bhq(l:List AS)(i:Nat):Nat->Nat->PV:=fun k c=>if k<i then .any else sC (l.getD k default) c
structure BkI (ms:List Fd) (R:List AS) (x:Nat×List AS×Bool):Prop where
 ok:OkB x.2.1
 t:x.2.2=true->aug ms x.1 x.2.1=R/\muB x.2.1<x.1
 f:x.2.2=false->x.2.1=R
def ckB(n:Int)(l m:List Fd)(s:AS):Int:=if zf n l m=0 then(if s>>>n.toNat=0 then 0 else 1)else zf n l m
def bh4(fs ms:List Fd)(i k:Nat):List Fd:=ms++(fs.take i).flatMap sgl++(sgl (fs.getD i default)).take k
end
section
open Go.Proofs
def bhy(x:Nat×List AS×Bool):Nat:=x.1+(bif x.2.2 then 1 else 0)
end
section
def bdj(b:AS)(f:Fd):Bool:=!decide ((f.rhs&&&~~~f.lhs)&&&b=0)
def b4d(l:List Fd)(o b:AS):AS:=if bsz b=1 then(if l.any (bdj b)=true then o|||b else o)else o
def bdc(l:List Fd)(o:AS)(bs:List AS):AS:=bs.foldl (b4d l) o
section
variable {l:List Fd}{o:AS}{bs:List AS}{i:Nat}
end
def awf(n:Int)(l m:List Fd)(x:AS):List AS:=ord (blks (bcf l m) (aj n&&&~~~x))
def bhe(n:Int)(l m:List Fd)(x:AS):List AS:=if ckB n l m x=0 then awf n l m x else[]
def b8b(n:Int)(l m:List Fd)(x:AS):AS:=bdc l x (awf n l m x)
def bi0(n:Int)(l m:List Fd)(x:AS):AS:=if ckB n l m x=0 then b8b n l m x else 0
def bfb(p:AS)(bs:List AS):List AS:=(bs.filter fun b=>!decide (b&&&p=0)).map fun b=>b&&&p
def avk(n:Int)(l m:List Fd)(x p:AS):List AS:=ord (bfb p (awf n l m x))
def ck4(n:Int)(l m:List Fd)(s:AS):Int:=if n<0\/8<n then 7 else ckB n l m s
def bhi(n:Int)(l m:List Fd)(x p:AS):List AS:=if ck4 n l m (x|||p)=0 then avk n l m x p else[]
def be0(n:Int)(l m:List Fd)(p x:AS):Option Fd:=if p&&&~~~(b8b n l m x)=0 then none else if 1<(avk n l m x p).length then some ⟨x,(avk n l m x p).getD 0 default⟩else none
def avt(n:Int)(l m:List Fd)(p:AS):Option Fd:=(d8 p).findSome? (be0 n l m p)
def auy:Option Fd->Fd×Bool
 |some v=>(v,true)
 |none=>(⟨0,0⟩,false)
def bf0(n:Int)(l m:List Fd)(p:AS):Fd×Bool:=if ck4 n l m p=0 then auy (avt n l m p) else(⟨0,0⟩,false)
def bfp(V:AS->Option Fd):Prop:=∀p v,V p=some v->sub (v.lhs|||v.rhs) p/\v.lhs|||v.rhs≠p/\p&&&~~~v.rhs≠p
section
variable {V:AS->Option Fd}
def vF(V:AS->Option Fd)(s:AS):Fd:=(auy (V s)).1
def vBo(V:AS->Option Fd)(s:AS):Bool:=(auy (V s)).2
def b89(V:AS->Option Fd)(s:AS):AS:=(vF V s).lhs|||(vF V s).rhs
def b5l(V:AS->Option Fd)(s:AS):AS:=s&&&~~~(vF V s).rhs
def ahh (V:AS->Option Fd):Nat->List AS->List AS->List AS
 |0,_,out=>out
 | n+1,todo,out =>
  if todo.length=0 then out
  else if vBo V (todo.getD (todo.length-1) default)=true then ahh V n (todo.take (todo.length-1)++[b89 V (todo.getD (todo.length-1) default),b5l V (todo.getD (todo.length-1) default)]) out
  else ahh V n (todo.take (todo.length-1)) (out++[todo.getD (todo.length-1) default])
def bhp(V:AS->Option Fd)(p0:AS)(x:Nat×List AS×List AS):Prop:=ahh V x.1 x.2.1 x.2.2=ahh V 6562 [p0] []/\b8p x.2.1<x.1/\x.2.2.length+x.1<=6562
def lvG (V:AS->Option Fd):Nat->AS->List AS
 |0,s=>[s]
 |n+1,s=>if vBo V s=true then lvG V n (b89 V s)++lvG V n (b5l V s) else[s]
end
def be9(n:Int)(l m:List Fd):List AS:=ahh (avt n l m) 6562 [aj n] []
def bho(n:Int)(l m:List Fd):List AS:=if ck4 n l m 0=0 then nf (be9 n l m) else[]
end
section
open Go.Proofs
def is4(n:Int)(l m:List Fd):Bool:=if ck4 n l m 0=0 then !(bf0 n l m (aj n)).2 else false
end
section
structure Mx where
 d:Dps
 m:List Dp
deriving Inhabited
def Mx.mv(x:Mx):List Fd:=x.m.map (Dp.fd x.d.num)
def Mx.c (x:Mx):Nat->PV
 |0=>x.d.c 0
 |1=>x.d.c 1
 |2=>dpl x.m
 |_=>.any
abbrev Mx.pc(x:Mx):PC:=.agg [x.c 0,x.c 1,x.c 2]
def Mx.ok(x:Mx):Bool:=decide (x.d.l.length<=6)&&decide (x.m.length<=4)
def bhd(n:Int)(l m:List Fd)(ps:List AS):Int:=if ck4 n l m 0=0 then lsC n ps l m else ck4 n l m 0
def bhx(n:Int)(l m:List Fd)(ps:List AS):Bool:=if ck4 n l m 0=0 then(if lsC n ps l m=0 then lsB n ps l m&&ps.all (fun p=>!vBo (avt n l m) p)else false)else false
end
section
open Go.Proofs Go.Proofs.YtmoggbnlhllhaaaGreatDoor
open Go.RowKit Go.ChangeShapes Go.WideShapes Go.ChangeAt
def s2C (x:AS×AS):Nat->PV
 |0=>asC x.1
 |1=>asC x.2
 |_=>.any
end
section
open Go.Proofs Go.Proofs.YtmoggbnlhllhaaaGreatDoor
open Go.RowKit Go.ChangeShapes Go.WideShapes Go.ChangeAt
def bfa:Rd bnb 26 2 Dp.c:=by
 intro H enc w sp held fuel cs x h;obtain⟨hl,n,hf⟩:=ary Tryz.underlying26 h;obtain⟨y0,e0⟩:=hf 0 _ rfl;obtain⟨y1,e1⟩:=hf 1 _ rfl;obtain⟨a0,h0⟩:=agw rd5 e0;obtain⟨a1,h1⟩:=agw rd5 e1;refine⟨hl.trans bn1,(⟨a0,a1⟩:Dp),fun j hj=>?_⟩
 match j,hj with
 |0,_=>exact h0 0 bmq
 |1,_=>exact h1 0 bmq
def avs:Rd bnb 5 1 b68:=(aza Tryz.underlying5).co id fun a j hj=>by obtain rfl:j=0:=bmq;exact CoP.refl _
def bdb:Rd bnb 65 1 avz:=(auz Tryz.underlying65 bn1 bmq avs).co id fun a j hj=>by obtain rfl:j=0:=bmq;exact CoP.refl _
def bbk:RdB bnb 22 1 (avy 1 avz) fun b l=>l.length<=b :=
 (asx (B:=fun _ _=>True) (fun _ _ _ _ _=>trivial) Tryz.underlying22 bn1 bmq bdb.toB).co id (fun b a h=>h.1) fun a j hj=>CoP.refl _
def bde:RdB bnb 24 3 ji.c fun b x=>x.rows.length<=b:=by
 intro H enc w sp held fuel cs x h;obtain⟨hl,n,hf⟩:=apf Tryz.underlying24 h;obtain⟨y0,e0⟩:=hf 0 _ rfl;obtain⟨y1,e1⟩:=hf 1 _ rfl;obtain⟨y2,e2⟩:=hf 2 _ rfl;obtain⟨a0,_,h0⟩:=a59 (fun _ _ _ _ _=>trivial) avs.toB e0;obtain⟨a1,_,h1⟩:=a59 (fun _ _ _ _ _=>trivial) avs.toB e1;obtain⟨a2,b2,h2⟩:=a59 (B:=fun b (l:List (List UInt8))=>l.length<=b) (fun _ _ _ h k=>bj2 k h) bbk e2;refine⟨hl.trans bn1,(⟨a0,a1,a2⟩:ji),b2,fun j hj=>?_⟩
 match j,hj with
 |0,_=>exact h0 0 bmq
 |1,_=>exact h1 0 bmq
 |2,_=>exact h2 0 bmq
def b9z:bnb.readableRec 24=true/\24<bnb.types.size:=⟨by kernel_rfl,of_decide_eq_true bn1⟩
def b6o:bnb.readableRec 26=true/\26<bnb.types.size:=⟨by kernel_rfl,of_decide_eq_true bn1⟩
end
section
structure Rcp where
 n:BitVec 8
 f:List Dp
 m:List Dp
 p:List (BitVec 8)
deriving Inhabited
def Rcp.num(d:Rcp)(k:Nat):Int:=1+((d.n.toNat%k:Nat):Int)
abbrev Rcp.pc(d:Rcp):PC:=.agg [.raw (.int .u8 (d.n.toNat:Int)),dpl d.f,dpl d.m,psl 1 u8C d.p]
def u8S(n:Int)(b:BitVec 8):AS:=b.setWidth 32&&&aj n
end
section
def stQ(x y:St):Bool:=(x.1==y.1)&&(decide ((x.2.1:Int)=(y.2.1:Int))&&(decide ((x.2.2.1:Int)=(y.2.2.1:Int))&&decide ((x.2.2.2:Int)=(y.2.2.2:Int))))
end
section
open Go.Proofs
abbrev Rcp.fs(d:Rcp)(k:Nat):List Fd:=d.f.map (Dp.fd (d.num k))
abbrev Rcp.ms(d:Rcp)(k:Nat):List Fd:=d.m.map (Dp.fd (d.num k))
abbrev Rcp.ps(d:Rcp)(k:Nat):List AS:=d.p.map (u8S (d.num k))
abbrev Rcp.t0(d:Rcp)(k:Nat):List Rw:=dh (md (d.num k) (d.ps k))
section
variable {n:Int}{p m:List Fd}{l0 l:List Rw}
end
end
section
def sgn(a b:Int):Int:=if a<b then -1 else if b<a then 1 else 0
def bAt(s:ByteArray)(i:Nat):Int:=c5 s i
def aq5:List UInt8->List UInt8->Int
 | [],[]=>0
 | [],_::_=>-1
 |_::_,[]=>1
 |x::xs,y::ys=>if x=y then aq5 xs ys else sgn x.toNat y.toNat
abbrev bl(s:ByteArray):List UInt8:=s.data.toList
def a0z(a b:ByteArray):Int:=aq5 (bl a) (bl b)
def wv(s:ByteArray):(bl s).length=s.size:=bjm
def zu (a b:Val):Int :=
 if sgn a.kind b.kind≠0 then sgn a.kind b.kind else if sgn a.num b.num≠0 then sgn a.num b.num else a0z a.str b.str
def bab:List Val->List Val->Int
 | [],[]=>0
 | [],_::_=>-1
 |_::_,[]=>1
 |x::xs,y::ys=>if zu x y≠0 then zu x y else bab xs ys
end
section
abbrev emp:ByteArray:=⟨#[]⟩
def cj (v:Val):Bool :=
 if v.kind=0 then decide (v.num=0)&&decide (v.str=emp)
 else if v.kind=1 then decide (v.str=emp)
 else if v.kind=2 then decide (v.num=0)&&decide (v.str.size<=200)
 else decide (v.kind=3)&&decide (1<=v.num)&&decide (v.str=emp)
def Val.ok(v:Val):Prop:=v.str.size<=68719476736
def asr(l:List Val):Prop:=∀j,j<l.length->(l.getD j default).ok
def Row.ok(r:Row):Prop:=r.vals.length<=68719476736/\asr r.vals
def ab7(l:List Row):Prop:=∀j,j<l.length->(l.getD j default).ok
def Tbl.ok(t:Tbl):Prop:=t.attrs.length<=68719476736/\t.rows.length<=68719476736/\ab7 t.rows
def beo(d:DB):Prop:=d.length<=68719476736/\∀j,j<d.length->Tbl.ok (d.getD j default)
def Chg.ok(x:Chg):Prop:=x.table.ok/\x.row.ok/\x.value.ok
def b4o(l:List Chg):Prop:=∀j,j<l.length->(l.getD j default).ok
def ltr(c:Int):Bool:=(decide (97<=c)&&decide (c<=122))||(decide (65<=c)&&decide (c<=90))||decide (c=95)
def dig(c:Int):Bool:=decide (48<=c)&&decide (c<=57)
abbrev aqa:ByteArray:=⟨#[110,117,108,108]⟩
def ahf(s:ByteArray):Bool:=(List.range s.size).all fun i=>ltr (c5 s i)||dig (c5 s i)
def jw(s:ByteArray):Bool:=decide (s.size≠0)&&decide (s.size<=24)&&ltr (c5 s 0)&&decide (s≠aqa)&&ahf s
def ads(l:List ByteArray)(s:ByteArray):Int:=idx (fun x=>decide (x=s)) l
def a2m(l:List ByteArray)(i:Nat):Bool:=jw (l.getD i default)&&decide (ads (l.take i) (l.getD i default)<0)
def a5r(l:List ByteArray):Bool:=(List.range l.length).all (a2m l)
def ew (n:Nat) (before:Int):List Row->Int
 | []=>0
 |r::rs=>if r.id<=before then 1 else if r.vals.length≠n then 6 else if(r.vals.all cj)=false then 1 else ew n r.id rs
def dg (t:Tbl):Int :=
 if jw t.name=false then 1 else if 16<t.attrs.length\/1000<t.rows.length then 3 else if a5r t.attrs=false then 1 else ew t.attrs.length 0 t.rows
section
variable {i:Nat}
def akx {n:Nat} {l:List Row} {b:Int} (hi:i<l.length):ew n b (l.drop i)=if(l.getD i default).id<=b then 1 else if(l.getD i default).vals.length≠n then 6 else if((l.getD i default).vals.all cj)=false then 1 else ew n (l.getD i default).id (l.drop (i+1)):=by
 rw[bl8 hi,ew];simp only[List.getD,bik hi,bkd]
def bg0(l:List Row)(id:Int):Option Nat:=l.findIdx? fun r=>decide (r.id=id)
def fq(l:List Row)(id:Int):Int:=idx (fun r=>decide (r.id=id)) l
def lh(d:DB)(s:ByteArray):Int:=idx (fun t=>decide (t.name=s)) d
def a9x(d:DB)(t:Tbl):Int:=if dg t≠0 then dg t else if 0<=lh d t.name then 5 else if 50<=d.length then 3 else 0
def zj {p:Nat->Bool} {n:Nat} (hi:i<n) (h:p i=false):(List.range n).all p=false:=by
 rw[List.all_eq_false];exact⟨i,bje.2 hi,by simp[h]⟩
def a7f {p:Nat->Bool} {n:Nat} (h:∀j,j<n->p j=true):(List.range n).all p=true:=by
 rw[bjr];exact fun j hj=>h j (bje.1 hj)
variable {s:ByteArray}
def abr(h:s.size=0):jw s=false:=by simp[jw,h]
def a8h (h:24<s.size):jw s=false:=by
 have:¬s.size<=24:=by omega
 simp[jw,this]
def ay3(h:ltr (c5 s 0)=false):jw s=false:=by simp[jw,h]
def a3q (hi:(i:Int)=0) (h:ltr (c5 s i)=false):jw s=false:=by
 obtain rfl:i=0:=by omega
 exact ay3 h
def b5n (hz:0<i->ltr (c5 s 0)=true) (h:i=0->ltr (c5 s i)=true):ltr (c5 s 0)=true:=by
 by_cases e:i=0
 · subst e;exact h rfl
 exact hz bmq
def a4y(h:s=aqa):jw s=false:=by simp[jw,h]
def a5h (hi:i<s.size) (h1:ltr (c5 s i)=false) (h2:dig (c5 s i)=false):jw s=false:=by
 have:ahf s=false:=zj hi (by simp[h1,h2]);simp[jw,this]
def b6g (h0:s.size≠0) (h1:s.size<=24) (h2:ltr (c5 s 0)=true) (h3:s≠aqa) (h4:∀j,j<s.size->(ltr (c5 s j)||dig (c5 s j))=true):jw s=true:=by
 have:ahf s=true:=a7f h4;simp[jw,this,h0,h1,h2,h3]
def xw:s.size=0<->s=emp:=by
 constructor
 · intro h
   refine ByteArray.ext (Array.ext' ?_);have:s.data.toList.length=0:=by rw[bjm];exact h
   exact bkf this
 rintro rfl;rfl
def anq {α:Type} {p:α->Bool} {l:List α}:decide (0<=idx p l)=l.any p:=by
 unfold idx
 cases h:l.findIdx? p with
 | none =>
  rw[blz]at h;have:l.any p=false:=by rw[bl4];intro x hx;simp[h x hx]
  simp[this]
 | some i =>
  rw[bkr]at h;obtain⟨hi,hp,_⟩:=h;have:l.any p=true:=by rw[blh];exact⟨_,bin hi,hp⟩
  simp[this]
def atf {α:Type} {p:α->Bool} {l:List α}:idx p l<l.length:=by
 unfold idx
 cases h:l.findIdx? p with
 |none=>simp;omega
 | some i =>
  rw[bkr]at h;simp[h.1]
def al7 {l:List Val}:(!l.any fun v=>!cj v)=l.all cj:=by
 induction l with
 |nil=>rfl
 |cons x l ih=>simp only[List.any_cons,List.all_cons,Bool.not_or,Bool.not_not,ih]
def ofI (k:Int):Val :=
 if k=0 then⟨1,0,emp⟩else if k=1 then⟨1,1,emp⟩else if k=2 then⟨1,2,emp⟩else if k=3 then⟨0,0,emp⟩else if k=4 then⟨2,0,⟨#[97]⟩⟩else if k=5 then⟨2,0,⟨#[98]⟩⟩
 else if k=6 then⟨2,0,emp⟩else if k=7 then⟨3,1,emp⟩else if k=8 then⟨1, -1,emp⟩else if k=9 then⟨2,0,⟨#[97,98]⟩⟩else if k=10 then⟨3,2,emp⟩ else⟨1,7,emp⟩
def ofV(c:UInt8):Val:=ofI ((c.toNat:Int)%12)
def acr(x:Opn):ByteArray:=[⟨#[114]⟩,⟨#[115]⟩,⟨#[116]⟩,emp].getD (x.name.toNat%4) default
def ayp(x:Opn):Row:=⟨x.id,x.vals.map ofV⟩
def mo:List ByteArray:=[⟨#[97]⟩,⟨#[98]⟩,⟨#[99]⟩,⟨#[100]⟩,⟨#[101]⟩,⟨#[102]⟩,⟨#[103]⟩,⟨#[104]⟩]
def o7(l:List UInt8)(n:Nat):List Val:=(List.range n).map fun k=>ofV (l.getD k default)
def lq(x:ji)(n:Nat):List Row:=(List.range x.rows.length).map fun(i:Nat)=>⟨1+(i:Int)*(1+(x.gap.toNat:Int)%3),o7 (x.rows.getD i default) n⟩
def zq(x:ji)(n:Nat):Tbl:=⟨⟨#[114]⟩,mo.take n,lq x n⟩
def ayz(x:Opn):Tbl:={ zq x.t (x.t.attrs.toNat%4)with name:=acr x }
def aeb {β:Type} [Inhabited β] (f:Nat->β) (n i:Nat) (h:i<n):((List.range n).map f).getD i default=f i:=by
 simp[List.getD,h]
end
end
end Go.Hx

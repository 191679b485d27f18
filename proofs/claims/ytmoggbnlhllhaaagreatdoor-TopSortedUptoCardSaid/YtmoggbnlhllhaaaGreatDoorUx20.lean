/- A part of the proof: Cc1 Cc2 Cc3 Ls1 Cs24 Cs26 V25 Cs27 Cs28 Cs30 Cs31 Cs32 Cs33 Cs34 Cs35 V34 Cs36 Cz1m Cs37 Ls2 Ls3 Ls5 Ls6 W2a Bz1 Bz2 Bz3 Y1 Bz4 Y3 Bz5 Rb25 Rb34 Sp1 Jo1. -/
import Derived.Shelf.SlSortCmp.Insertion
import Derived.Test.YtmoggbnlhllhaaaGreatDoorUx19
set_option linter.all false
set_option maxRecDepth 100000
namespace Go.Hx
section
def AgE(E:Int->Int->Prop)(a b:Rw)(s:AS):Prop:=∀i:Nat,i<a.length->io s (i:Int)=true->E (a.getD i default) (b.getD i default)
structure Mdl (N:Nat) (p m:List Fd) (E:Int->Int->Prop) (R:Rw->Prop):Prop where
 refl:∀x,E x x
 symm:∀{x y},E x y->E y x
 trans:∀{x y z},E x y->E y z->E x z
 len:∀{r},R r->r.length=N
 cong:∀{r r':Rw},R r->r'.length=r.length->(∀i,i<r.length->E (r.getD i default) (r'.getD i default))->R r'
 fd:∀{x},x∈p->∀{a b},R a->R b->AgE E a b x.lhs->AgE E a b x.rhs
 mv:∀{x},x∈m->∀{a b},R a->R b->AgE E a b x.lhs->R (jc a b (x.lhs|||x.rhs))
def LE(N:Nat)(p m:List Fd)(l:List Rw)(x y:Int):Prop:=∀E R,Mdl N p m E R->(∀r,r∈l->R r)->E x y
def LR(N:Nat)(p m:List Fd)(l:List Rw)(r:Rw):Prop:=∀E R,Mdl N p m E R->(∀r,r∈l->R r)->R r
def b2r (N:Nat) (p m:List Fd):Mdl N p m (fun _ _=>True) (fun r=>r.length=N) :=
 ⟨fun _=>trivial,fun _=>trivial,fun _ _=>trivial,fun h=>h,fun h e _=>e.trans h,fun _ _ _ _ _ _ _ _ _=>trivial,fun _ a b _ hb _=>(ua _ _ _).trans hb⟩
def a7e {N:Nat} {p m:List Fd} {l:List Rw} (hl:∀r,r∈l->r.length=N):Mdl N p m (LE N p m l) (LR N p m l) where
 refl x:=fun E R h _=>h.refl x
 symm h:=fun E R k kl=>k.symm (h E R k kl)
 trans h h2:=fun E R k kl=>k.trans (h E R k kl) (h2 E R k kl)
 len h:=h _ _ (b2r N p m) hl
 cong h e h2:=fun E R k kl=>k.cong (h E R k kl) e fun i hi=>h2 i hi E R k kl
 fd hx _ _ ha hb hl:=fun i hi hs E R k kl=>k.fd hx (ha E R k kl) (hb E R k kl) (fun j hj hh=>hl j hj hh E R k kl) i hi hs
 mv hx _ _ ha hb hl:=fun E R k kl=>k.mv hx (ha E R k kl) (hb E R k kl) fun j hj hh=>hl j hj hh E R k kl
structure Ch (N:Nat) (p m:List Fd) (l0 l:List Rw) (σ:Int->Int):Prop where
 rows:∀r,r∈l->LR N p m l0 r
 sym:∀s,LE N p m l0 s (σ s)
 img:∀r,r∈l0->r.map σ∈l
 fix:∀r,r∈l->∀z,z∈r->σ z=z
 le:∀s,σ s<=s
section
variable {N:Nat}{p m:List Fd}{l0 l l':List Rw}{σ σ':Int->Int}{n:Int}
theorem Ch.start:Ch N p m l0 l0 id:=⟨fun r hr E R _ hl=>hl r hr,fun s E R k _=>k.refl s,fun r hr=>by rw[List.map_id];exact hr,fun _ _ _ _=>rfl,fun s=>Int.le_refl s⟩
theorem Ch.congr (h:Ch N p m l0 l σ) (e:∀r,r∈l'<->r∈l):Ch N p m l0 l' σ :=
 ⟨fun r hr=>h.rows r ((e r).1 hr),h.sym,fun r hr=>(e _).2 (h.img r hr),fun r hr=>h.fix r ((e r).1 hr),h.le⟩
def vc(hi lo z:Int):Int:=if z=hi then lo else z
section
variable {f:Int->Int}
theorem yl {r:Rw} {i:Nat} (h:i<r.length):(r.map f).getD i default=f (r.getD i default):=by
 grind
theorem Ch.sub (hl0:∀r,r∈l0->r.length=N) (h:Ch N p m l0 l σ) {hi lo:Int} (hE:LE N p m l0 hi lo) (hle:lo<=hi) (hin:∃r,r∈l/\lo∈r):Ch N p m l0 (l.map fun r=>r.map (vc hi lo)) (fun s=>vc hi lo (σ s)):=by
 have hm:=a7e (p:=p) (m:=m) hl0
 have hs:∀z,LE N p m l0 z (vc hi lo z):=fun z=>by
  unfold vc;split
  · grind
  exact hm.refl z
 refine⟨fun r hr=>?_,fun s=>hm.trans (h.sym s) (hs _),fun r hr=>?_,fun r hr z hz=>?_,fun s=>?_⟩
 · obtain ⟨r0,h0,rfl⟩:=bml.1 hr
   exact hm.cong (h.rows r0 h0) bpz fun i hi=>by rw[yl hi];exact hs _
 · refine bml.2 ⟨_,h.img r hr, ?_⟩
   simp_all
 · obtain ⟨r0,h0,rfl⟩:=bml.1 hr
   obtain⟨y,hy,rfl⟩:=bml.1 hz;obtain⟨r1,h1,h2⟩:=hin;have e1:=h.fix r0 h0 y hy;have e2:=h.fix r1 h1 lo h2;by_cases e:y=hi
   · have e3:vc hi lo y=lo:=if_pos e
     show vc hi lo (σ (vc hi lo y))=vc hi lo y;rw[e3,e2];unfold vc;split<;>rfl
   have e3:vc hi lo y=y:=if_neg e
   grind
 have h1:=h.le s
 have h2:vc hi lo (σ s)<=σ s:=by
  unfold vc
  grind
 grind
def ary {M:Nat->Nat->Int} {a b j:Nat}:i6 l (eqM M a b j)=(i6 l M).map fun r=>r.map (vc (hiI (M a j) (M b j)) (loI (M a j) (M b j))):=by
 unfold i6;rw[List.map_map];refine bpn fun i _=>?_;show _=List.map _ (List.map _ _);rw[List.map_map];rfl
def au0 {M:Nat->Nat->Int} {a j:Nat} (ha:a<l.length) (hj:j<(l.getD a default).length):∃r,r∈i6 l M/\M a j∈r :=
 a8z.2 ⟨a,j,ha,hj,rfl⟩
theorem Ch.eqMs (hl0:∀r,r∈l0->r.length=N) {a b:Nat} (ha:a<l.length) (hb:b<l.length):∀{js:List Nat} {M:Nat->Nat->Int} {σ:Int->Int},Ch N p m l0 (i6 l M) σ->(∀j,j∈js->j<(l.getD a default).length/\j<(l.getD b default).length/\LE N p m l0 (M a j) (M b j)) ->
 ∃σ',Ch N p m l0 (i6 l (eqMs M a b js)) σ'
 | [],M,σ,h,_=>⟨σ,h⟩
 | j :: js,M,σ,h,hj=>by
  obtain⟨h1,h2,h3⟩:=hj j bpz;have hm:=a7e (p:=p) (m:=m) hl0;have hlo:loI (M a j) (M b j)<=hiI (M a j) (M b j):=by unfold loI hiI;split<;>split<;>omega
  have hE:LE N p m l0 (hiI (M a j) (M b j)) (loI (M a j) (M b j)):=by
   rcases b1m (M a j) (M b j)with e|e<;>rcases apy (M a j) (M b j)with f|f<;>rw[e,f]
   · exact hm.refl _
   · exact h3
   · exact hm.symm h3
   exact hm.refl _
  have hin:∃r,r∈i6 l M/\loI (M a j) (M b j)∈r:=by
   rcases apy (M a j) (M b j)with f|f<;>rw[f]
   · exact au0 ha h1
   exact au0 hb h2
  have hq:=h.sub hl0 hE hlo hin;rw[<- ary]at hq
  have hs:∀z,LE N p m l0 z (if z=hiI (M a j) (M b j)then loI (M a j) (M b j)else z):=fun z=>by
   split
   · rename_i e;rw[e];exact hE
   exact hm.refl z
  exact Ch.eqMs hl0 ha hb (js:=js) hq fun k hk=>by
   obtain⟨h4,h5,h6⟩:=hj k (by simp[hk]);exact⟨h4,h5,hm.trans (hm.symm (hs (M a k))) (hm.trans h6 (hs (M b k)))⟩
theorem ame:i6 l (zd l)=l:=by
 refine a1f (a3t _ _) fun i hi=>?_;rw[a3t]at hi;rw[atr hi];refine a1f bpz fun k hk=>?_
 grind
def aqm (hl0:∀r,r∈l0->r.length=N) {a b:Rw} {s:AS} (h:a09 a b s=true):AgE (LE N p m l0) a b s:=fun i hi hs=>by
 rw[of_decide_eq_true h i hi hs];exact(a7e hl0).refl _
theorem gz {α:Type} [Inhabited α] {l:List α} {i:Nat} (h:i<l.length):l.getD i default∈l:=by
 grind
theorem az2 {a b:Rw} {s:AS} (hl:a.length=b.length) {z:Int} (hz:z∈jc a b s):z∈a\/z∈b:=by
 unfold jc at hz
 grind
def bbx(l:List Rw)(p m:List Fd)(s:St):Prop:=s.2.2.1<l.length/\s.2.2.2<l.length/\(s.1=false->s.2.1<p.length)/\(s.1=true->s.2.1<m.length)
theorem Ch.app (hl0:∀r,r∈l0->r.length=n.toNat) (hT:tok n l=true) (hp:p.all (inU n)=true) (h:Ch n.toNat p m l0 l σ) {s:St} (hs:bbx l p m s) (he:(jj n l p m s).2.2=0) :
 (jj n l p m s).1=n/\∃σ',Ch n.toNat p m l0 (jj n l p m s).2.1 σ':=by
 obtain⟨mu,i,a,b⟩:=s;obtain⟨ha,hb,hf,hv⟩:=hs;obtain⟨h0,h1,h2,h3⟩:=a1g hT;have ha:a<l.length:=ha;have hb:b<l.length:=hb;have hra:=h3 a ha;have hrb:=h3 b hb
 cases mu with
 | false =>
  have hi:i<p.length:=hf rfl;have e0:jj n l p m (false,i,a,b)=fdE n l a b (p.getD i default):=rfl;rw[e0]at he ⊢;by_cases hg:a09 (l.getD a default) (l.getD b default) (p.getD i default).lhs=true
  · have e1:fdE n l a b (p.getD i default)=(n,dv (i6 l (Go.Hx.eqMs (zd l) a b (bc (p.getD i default).rhs))),0):=if_pos hg
    rw[e1];refine⟨rfl, ?_⟩;have hu:inU n (p.getD i default)=true:=bms.1 hp _ (gz hi);have hm:=a7e (p:=p) (m:=m) hl0;have hR:=hm.fd (gz hi) (h.rows _ (gz ha)) (h.rows _ (gz hb)) (aqm hl0 hg)
    obtain ⟨σ',hσ⟩:=Ch.eqMs (p:=p) (m:=m) hl0 ha hb (js:=bc (p.getD i default).rhs) (M:=zd l) (σ:=σ) (by rw[ame];exact h) fun j hj=>by
     have h4:=apc h0 h1 hu hj;have h5:=wg.1 hj;refine⟨Nat.lt_of_lt_of_eq h4 hra.symm,Nat.lt_of_lt_of_eq h4 hrb.symm,hR j (Nat.lt_of_lt_of_eq h4 hra.symm) (by rw[s5 h5.1];exact h5.2)⟩
    exact⟨σ',hσ.congr fun r=>gm⟩
  have e1:fdE n l a b (p.getD i default)=(0,[],1):=if_neg hg
  grind
 | true =>
  have hi:i<m.length:=hv rfl;have e0:jj n l p m (true,i,a,b)=mvE n l a b (m.getD i default):=rfl;rw[e0]at he ⊢;by_cases hg:a09 (l.getD a default) (l.getD b default) (m.getD i default).lhs=true
  · have e1:mvE n l a b (m.getD i default)=a5j n l (jc (l.getD a default) (l.getD b default) ((m.getD i default).lhs|||(m.getD i default).rhs)):=if_pos hg
    rw[e1]at he ⊢;by_cases hbig:256<(dv (l++[jc (l.getD a default) (l.getD b default) ((m.getD i default).lhs|||(m.getD i default).rhs)])).length
    · have e2:a5j n l (jc (l.getD a default) (l.getD b default) ((m.getD i default).lhs|||(m.getD i default).rhs))=(0,[],3):=if_pos hbig
      grind
    have e2:a5j n l (jc (l.getD a default) (l.getD b default) ((m.getD i default).lhs|||(m.getD i default).rhs))=(n,dv (l++[jc (l.getD a default) (l.getD b default) ((m.getD i default).lhs|||(m.getD i default).rhs)]),0):=if_neg hbig;rw[e2];refine⟨rfl,σ, ?_⟩;have hm:=a7e (p:=p) (m:=m) hl0;have hR:=hm.mv (gz hi) (h.rows _ (gz ha)) (h.rows _ (gz hb)) (aqm hl0 hg);refine⟨fun r hr=>?_,h.sym,fun r hr=>gm.2 (bmi _ (h.img r hr)),fun r hr z hz=>?_,h.le⟩
    · rcases bmg.1 (gm.1 hr)with h4|h4
      · exact h.rows r h4
      grind
    rcases bmg.1 (gm.1 hr)with h4|h4
    · exact h.fix r h4 z hz
    rw[bmu.1 h4]at hz
    rcases az2 bpw hz with h5|h5
    · exact h.fix _ (gz ha) z h5
    exact h.fix _ (gz hb) z h5
  have e1:mvE n l a b (m.getD i default)=(0,[],1):=if_neg hg
  grind
def abv {P:Nat->Nat->Nat->Bool} {I L:Nat} (h:a5v P I L=none) {i a b:Nat} (hi:i<I) (ha:a<L) (hb:b<L):P i a b=false:=by
 unfold a5v at h;simp_all
def au5 (h:zr l p m=none):(∀i,i<p.length->∀a,a<l.length->∀b,b<l.length->zt l (p.getD i default) a b=false)/\∀i,i<m.length->∀a,a<l.length->∀b,b<l.length->x8 l (m.getD i default) a b=false:=by
 unfold zr at h;split at h
 · cases h
 rename_i e;rw[Option.map_eq_none_iff]at h;exact⟨fun i hi a ha b hb=>abv (P:=fun i a b=>zt l (p.getD i default) a b) e hi ha hb,fun i hi a ha b hb=>abv (P:=fun i a b=>x8 l (m.getD i default) a b) h hi ha hb⟩
def ya {α:Type} [Inhabited α] {l:List α} {x:α} (h:x∈l):∃i,i<l.length/\l.getD i default=x:=by
 obtain⟨i,hi,rfl⟩:=bmj h;exact⟨i,hi,by rw[bm7,blz hi];rfl⟩
theorem ay1 {a b:Rw} {s:AS} (hl:a.length=b.length):jc (a.map f) (b.map f) s=(jc a b s).map f:=by
 unfold jc;rw[List.map_map,bn0];refine bpn fun i hi=>?_
 grind
theorem Ch.mdl (hT:tok n l=true) (hn:zr l p m=none) (σ:Int->Int):Mdl n.toNat p m (fun x y=>σ x=σ y) (fun r=>r.length=n.toNat/\r.map σ∈l):=by
 obtain⟨hF,hM⟩:=au5 hn;refine⟨fun _=>rfl,fun h=>h.symm,fun h k=>h.trans k,fun h=>h.1,fun {r r'} h e h2=>⟨e.trans h.1, ?_⟩,fun {x} hx {a b} ha hb hl i hi hs=>?_,fun {x} hx {a b} ha hb hl=>⟨(ua _ _ _).trans hb.1, ?_⟩⟩
 · have:r'.map σ=r.map σ:=by
    refine a1f (by simp[e]) fun i hi=>?_
    grind
   grind
 · obtain ⟨k,hk,rfl⟩:=ya hx
   obtain⟨ia,hia,ea⟩:=ya ha.2;obtain⟨ib,hib,eb⟩:=ya hb.2;have h1:=hF k hk ia hia ib hib;unfold zt at h1;rw[ea,eb,al2 (fun j hj hs=>by rw[bn0]at hj;rw[yl hj,yl (by rw[hb.1,<- ha.1];exact hj)];exact hl j hj hs),bok,Bool.not_eq_false']at h1;have h2:=of_decide_eq_true h1 i (by rw[bn0];exact hi) hs
   grind
 obtain⟨k,hk,rfl⟩:=ya hx;obtain⟨ia,hia,ea⟩:=ya ha.2;obtain⟨ib,hib,eb⟩:=ya hb.2;have h1:=hM k hk ia hia ib hib;unfold x8 at h1;rw[ea,eb,al2 (fun j hj hs=>by rw[bn0]at hj;rw[yl hj,yl (by rw[hb.1,<- ha.1];exact hj)];exact hl j hj hs),bok,Bool.not_eq_false']at h1;obtain⟨r,hr,e⟩:=boh.1 h1;rw[<- ay1 (by rw[ha.1,hb.1]),<- of_decide_eq_true e];exact hr
theorem Ch.has (h:Ch n.toNat p m l0 l σ) (hT:tok n l=true) (hl0:∀r,r∈l0->r.length=n.toNat) (hn:zr l p m=none):(∀x y,LE n.toNat p m l0 x y->σ x=σ y)/\∀r,LR n.toNat p m l0 r->r.map σ∈l:=by
 have hm:=Ch.mdl (p:=p) (m:=m) hT hn σ;have hl:∀r,r∈l0->r.length=n.toNat/\r.map σ∈l:=fun r hr=>⟨hl0 r hr,h.img r hr⟩;exact⟨fun x y e=>e _ _ hm hl,fun r e=>(e _ _ hm hl).2⟩
def adw:∀{r:Rw},(∀z,z∈r->f z=z)->r.map f=r
 | [],_=>rfl
 |z::r,h=>by rw[bnr,h z bpz,adw fun y hy=>h y (by simp[hy])]
theorem Ch.mem (h:Ch n.toNat p m l0 l σ) (hT:tok n l=true) (hl0:∀r,r∈l0->r.length=n.toNat) (hn:zr l p m=none) {r:Rw}:r∈l<->LR n.toNat p m l0 r/\r.map σ=r:=by
 constructor
 · intro hr
   exact⟨h.rows r hr,adw (h.fix r hr)⟩
 rintro⟨h1,h2⟩;rw[<- h2];exact(h.has hT hl0 hn).2 r h1
end
end
end
section
def bdy:List (List Int)->List Rw
 | []=>[[]]
 |c::cs=>c.flatMap fun z=>(bdy cs).map fun r=>z::r
section
variable {N:Nat}{p m:List Fd}{l0 l:List Rw}
def an8 {a b:Rw} {s:AS} {i:Nat} (h:i<b.length):(jc a b s).getD i default=if io s (i:Int)=true then a.getD i default else b.getD i default:=by
 unfold jc;rw[bm7,bn1,bo0 h];rfl
def aw7 (C:Nat->List Int) (hd:∀i j z,z∈C i->z∈C j->i=j):Mdl N p m (fun x y=>x=y\/∃i,x∈C i/\y∈C i) (fun r=>r.length=N/\∀i,i<N->r.getD i default∈C i) where
 refl _:=.inl rfl
 symm h:=by
  rcases h with h|⟨i,h,k⟩
  · exact .inl h.symm
  exact .inr ⟨i,k,h⟩
 trans h h2:=by
  rcases h with h|⟨i,h,k⟩
  · rw[h];exact h2
  rcases h2 with h2|⟨j,h2,k2⟩
  · rw[<- h2];exact .inr ⟨i,h,k⟩
  have:=hd i j _ k h2;subst this;exact .inr ⟨i,h,k2⟩
 len h:=h.1
 cong h e h2:=⟨e.trans h.1,fun i hi=>by
  have h3:=h.2 i hi
  rcases h2 i (by rw[h.1];exact hi)with h4|⟨j,h4,h5⟩
  · rw[<- h4];exact h3
  have:=hd i j _ h3 h4;subst this
  exact h5⟩
 fd _ a b ha hb _:=fun i hi _=>.inr ⟨i,ha.2 i (by rw[<- ha.1];exact hi),hb.2 i (by rw[<- ha.1];exact hi)⟩
 mv _ a b ha hb _:=⟨(ua _ _ _).trans hb.1,fun i hi=>by
  rw[an8 (by rw[hb.1];exact hi)];split
  · exact ha.2 i hi
  exact hb.2 i hi⟩
def art:Mdl N p m (fun x y=>0<=x<->0<=y) (fun r=>r.length=N/\∀i,i<r.length->0<=r.getD i default) where
 refl _:=Iff.rfl
 symm h:=h.symm
 trans h h2:=h.trans h2
 len h:=h.1
 cong h e h2:=⟨e.trans h.1,fun i hi=>(h2 i bpw).1 (h.2 i bpw)⟩
 fd _ a b ha hb _:=fun i hi _=>⟨fun _=>hb.2 i (by rw[hb.1,<- ha.1];exact hi),fun _=>ha.2 i hi⟩
 mv _ a b ha hb _:=⟨(ua _ _ _).trans hb.1,fun i hi=>by
  rw[ua]at hi;rw[an8 hi];split
  · exact ha.2 i (by rw[ha.1,<- hb.1];exact hi)
  exact hb.2 i hi⟩
def arh(N:Nat)(p m:List Fd)(l0:List Rw):Prop:=∀l,qi l->(∀r,r∈l->LR N p m l0 r)->l.length<=256
end
section
variable {p m:List Fd}{l0 l:List Rw}{n:Int}{σ:Int->Int}
def b79 (h0:tok n l0=true) (hS:arh n.toNat p m l0) (ho:qi l) (h:∀r,r∈l->LR n.toNat p m l0 r):tok n l=true:=by
 obtain⟨h1,h2,_⟩:=a1g h0;refine asq h1 h2 (hS l ho h) (fun r hr=>?_) ho;have h3:=h r hr _ _ art fun r0 hr0=>⟨(xn h0 r0 hr0).1,fun i hi=>(xn h0 r0 hr0).2 _ (gz hi)⟩;refine⟨h3.1,fun z hz=>?_⟩;obtain⟨i,hi,rfl⟩:=ya hz;exact h3.2 i hi
def ayw{s:St}(h:(jj n l p m s).2.2=0):qi (jj n l p m s).2.1:=by
 unfold jj at *;split at h
 · rename_i e
   rw[if_pos e];unfold mvE a5j at *;split at h
   · rename_i e2
     rw[if_pos e2];split at h
     · exact absurd h bq4
     rename_i e3;rw[if_neg e3];exact tf _
   exact absurd h bq4
 rename_i e;rw[if_neg e];unfold fdE at *;split at h
 · rename_i e2
   rw[if_pos e2];exact tf _
 exact absurd h bq4
theorem Ch.step (h0:tok n l0=true) (hS:arh n.toNat p m l0) (hp:p.all (inU n)=true) (hT:tok n l=true) (h:Ch n.toNat p m l0 l σ) {s:St} (hs:bbx l p m s) (he:(jj n l p m s).2.2=0) :
 ∃l' σ',jj n l p m s=(n,l',0)/\tok n l'=true/\Ch n.toNat p m l0 l' σ':=by
 obtain⟨h1,σ',h2⟩:=Ch.app (fun r hr=>(xn h0 r hr).1) hT hp h hs he;have h3:=b79 h0 hS (ayw he) h2.rows;refine⟨_,σ', ?_,h3,h2⟩
 conv=>lhs;rw[<- Prod.eta (jj n l p m s),<- Prod.eta (jj n l p m s).2,h1,he]
theorem Ch.code (h0:tok n l0=true) (hS:arh n.toNat p m l0) (hp:p.all (inU n)=true) (hT:tok n l=true) (h:Ch n.toNat p m l0 l σ) {s:St} (hs:azd l p m s):(jj n l p m s).2.2=0:=by
 rcases bcs hT hp hs with e|⟨l',e,_⟩
 · obtain ⟨mu,i,a,b⟩:=s
   obtain⟨ha,hb,hs|hs⟩:=hs
   · obtain ⟨h1,h2,h3⟩:=hs
     cases h1;have h4:jj n l p m (false,i,a,b)=fdE n l a b (p.getD i default):=rfl;have hg:=(b0n hT (bms.1 hp _ (gz h2)) ha hb h3).1;have hg:fdE n l a b (p.getD i default)=(n,fdL l a b (p.getD i default),0):=hg;rw[h4,hg]at e ⊢
   obtain⟨h1,h2,h3⟩:=hs;cases h1;have h4:jj n l p m (true,i,a,b)=mvE n l a b (m.getD i default):=rfl;have h5:x8 l (m.getD i default) a b=true:=h3;unfold x8 at h5;rw[bm8]at h5;have h6:mvE n l a b (m.getD i default)=a5j n l (jc (l.getD a default) (l.getD b default) ((m.getD i default).lhs|||(m.getD i default).rhs)):=if_pos h5.1;have hl0:∀r,r∈l0->r.length=n.toNat:=fun r hr=>(xn h0 r hr).1
   have h7:=hS (dv (l++[jc (l.getD a default) (l.getD b default) ((m.getD i default).lhs|||(m.getD i default).rhs)])) (tf _) fun r hr=>by
    rcases bmg.1 (gm.1 hr)with h8|h8
    · exact h.rows r h8
    rw[bmu.1 h8];exact(a7e hl0).mv (gz h2) (h.rows _ (gz ha)) (h.rows _ (gz hb)) (aqm hl0 h5.1)
   rw[h4,h6];unfold a5j;rw[if_neg bpw]
 rw[e]
def TrZ (n:Int) (p m:List Fd) (lend:List Rw):List Rw->List St->Prop
 |l,[]=>l=lend
 |l,s::r=>tok n l=true/\azd l p m s/\∃l',jj n l p m s=(n,l',0)/\¬l'=l/\TrZ n p m lend l' r
end
def stC(n:Int)(ps:List AS)(c:Nat):List Int:=if c<n.toNat then(List.range ps.length).map fun i=>stV n i (ps.getD i default) c else[]
section
variable {n:Int}{ps:List AS}{p m:List Fd}
def b6r (h0:0<=n) {i c:Nat} {q:AS} (hc:c<n.toNat):stV n i q c%n=(c:Int):=by
 unfold stV;split
 · exact Int.emod_eq_of_lt bpw bpw
 have e:n+(i:Int)*n+(c:Int)=(c:Int)+n*(1+(i:Int)):=by rw[Int.mul_add,Int.mul_one,Int.mul_comm (i:Int) n];omega
 rw[e,Int.add_mul_emod_self_left];exact Int.emod_eq_of_lt bpw bpw
def af1(h0:0<=n){c:Nat}{z:Int}(h:z∈stC n ps c):c<n.toNat/\z%n=(c:Int):=by
 unfold stC at h;split at h
 · rename_i hc
   obtain⟨i,_,rfl⟩:=bml.1 h;exact⟨hc,b6r h0 hc⟩
 simp at h
def b6c (h0:0<=n):∀i j z,z∈stC n ps i->z∈stC n ps j->i=j:=fun i j z h k=>by
 have h1:=(af1 h0 h).2;have h2:=(af1 h0 k).2;omega
def as2 {r:Rw} (hr:r∈my n ps):r.length=n.toNat/\∀i,i<n.toNat->r.getD i default∈stC n ps i:=by
 unfold my at hr;obtain⟨k,hk,rfl⟩:=bml.1 hr;refine⟨b5u _ _ _,fun i hi=>?_⟩;rw[bc8 hi];unfold stC;rw[if_pos hi];exact bml.2 ⟨k,hk,rfl⟩
end
end
section
section
variable {n:Int}{ps:List AS}{p m:List Fd}{l l0:List Rw}{σ:Int->Int}
def bbq(h0:0<=n){c:Nat}{z:Int}(h:z∈stC n ps c):z=(c:Int)\/n<=z:=by
 unfold stC at h;split at h
 · obtain ⟨i,_,rfl⟩:=bml.1 h
   unfold stV;split
   · exact .inl rfl
   right;have:=Int.mul_nonneg (show(0:Int)<=(i:Int) by omega) h0;omega
 simp at h
theorem Ch.first (h0:0<=n) (h:Ch n.toNat p m (dv (my n ps)) l σ):(a14 n).map σ=a14 n:=by
 refine adw fun z hz=>?_;unfold a14 at hz;obtain⟨c,hc,rfl⟩:=bml.1 hz;have hc:=bmm.1 hc;have h1:=h.sym (c:Int) _ _ (aw7 (stC n ps) (b6c h0)) fun r hr=>as2 (gm.1 hr)
 rcases h1 with h1|⟨i,h1,h2⟩
 · exact h1.symm
 have h3:=(af1 h0 h1).2;have h4:=Int.emod_eq_of_lt (a:=(c:Int)) (b:=n) bpw bpw;have h5:i=c:=by omega
 subst h5;have h6:=h.le (i:Int)
 rcases bbq h0 h2 with h7|h7
 · exact h7
 omega
def swI(n z:Int):Int:=if n<=z/\z<2*n then z+n else if 2*n<=z/\z<3*n then z-n else z
abbrev bjr(n:Int)(x:Fd):Fd:=⟨x.lhs,ah n&&&~~~(x.lhs|||x.rhs)⟩
end
end
section
section
variable {n:Int}{p m:List Fd}{l0 l:List Rw}{σ:Int->Int}
def trL (n:Int) (p m:List Fd):List Rw->List St->List (List Rw)
 |l,[]=>[l]
 |l,s::r=>l::trL n p m (jj n l p m s).2.1 r
end
section
variable {n:Int}{ps:List AS}{p m:List Fd}
end
end
section
section
variable {n:Int}{l:List Fd}
def b4m (h:cn n l=0):∀f∈l,sub f.lhs (ah n)/\sub f.rhs (ah n):=fun f hf=>by
 obtain⟨h0,h1,_,h3⟩:=o4 h;exact(apb h0 h1).1 (bms.1 h3 f hf)
def amj(h:cn n l=0):sv l (ah n):=fun f hf _=>(b4m h f hf).2
def aw2(h:cn n l=0){x:AS}(hx:sub x (ah n)):sub (clo l x) (ah n):=a4d (amj h) hx
end
def a4v {α β:Type} [Inhabited α] {f:α->β} {l:List α} {i:Nat} (h:i<l.length):(l.take (i+1)).map f=(l.take i).map f++[f (l.getD i default)]:=by
 rw[ax h,bn7];rfl
structure Dps where
 n:BitVec 8
 l:List Dp
deriving Inhabited
def Dps.num(d:Dps):Int:=((d.n.toNat%7:Nat):Int)
def Dps.fds(d:Dps):List Fd:=d.l.map (Dp.fd d.num)
def Dps.c (d:Dps):Nat->PV
 |0=>.raw (.int .u8 (d.n.toNat:Int))
 |1=>dpl d.l
 |_=>.any
abbrev Dps.pc(d:Dps):PC:=.agg [d.c 0,d.c 1]
end
section
def noA(s:AS)(a:Nat):AS:=s&&&~~~((1:AS)<<<a)
def apz (s:AS) (a:Nat) {b:Int} (h:b.toNat=a):cu .andNot .u32 (asI s) (IntKind.wrap .u32 (1*2^(min b.toNat 32)))=asI (noA s a):=by
 rw[h];exact a7x s a
def avz(n:Int)(l:List Fd)(s:AS)(a:Nat):AS:=if ng n l (noA s a)=true then noA s a else s
def qb(n:Int)(l:List Fd)(s:AS)(k:Nat):AS:=(List.range k).foldl (fun s j=>avz n l s (n.toNat-1-j)) s
def abc (n:Int) (l:List Fd) (s:AS) (k:Nat):qb n l s (k+1)=avz n l (qb n l s k) (n.toNat-1-k):=by
 unfold qb;rw[bmk,bmo];rfl
section
variable {l:List Fd}{n:Int}{s:AS}
def aoq {k:Nat} (h:ng n l (noA (qb n l s k) (n.toNat-1-k))=true):qb n l s (k+1)=noA (qb n l s k) (n.toNat-1-k):=by
 rw[abc];exact if_pos h
def apm {k:Nat} (h:ng n l (noA (qb n l s k) (n.toNat-1-k))=false):qb n l s (k+1)=qb n l s k:=by
 rw[abc];exact if_neg (by rw[h];decide)
def rkE(n:Int)(l:List Fd)(s:AS):Int:=if cn n l=0 then(if ng n l s=true then 0 else 1)else cn n l
def rkS(n:Int)(l:List Fd)(s:AS):AS:=if rkE n l s=0 then qb n l s n.toNat else 0
def bgj (h:¬cn n l=0):rkS n l s=0/\rkE n l s=cn n l:=by
 have e:rkE n l s=cn n l:=if_neg h;exact⟨if_neg (by rw[e];exact h),e⟩
def bi5 (h:cn n l=0) (h2:ng n l s=false):rkS n l s=0/\rkE n l s=1:=by
 have e:rkE n l s=1:=by unfold rkE;rw[if_pos h,if_neg (by rw[h2];decide)]
 exact⟨if_neg (by rw[e];decide),e⟩
def b9g (h:cn n l=0) (h2:ng n l s=true):rkS n l s=qb n l s n.toNat/\rkE n l s=0:=by
 have e:rkE n l s=0:=by unfold rkE;rw[if_pos h,if_pos h2]
 exact⟨if_pos e,e⟩
def bem(n:Int)(l:List Fd)(s:AS):Bool:=ng n l s&&(List.range n.toNat).all fun a=>!(s.getLsbD a&&ng n l (noA s a))
def bea(n:Int)(l:List Fd)(i:Nat):List AS:=((List.range i).map (BitVec.ofNat 32)).filter (bem n l)
def b17(n:Int)(l:List Fd):List AS:=if cn n l=0 then ord (bea n l (2^n.toNat)) else[]
end
end
section
open Go.Proofs
def b7v:a6 bqh 71:=wgx Tryz.func71
def b4a(n:Int)(l:List Fd)(s:AS):a7 bqh 71 [pI n,pP (fdl l),pA s] (af [pA (rkS n l s),pI (rkE n l s)]):=by
 refine hpx (nt:=38) Tryz.func71 ?_;refine eu ?_;refine qcx a1m (ac8 n l) ?_;refine w_7 ?_;refine hcn ?_ ?_<;>intro h0
 · refine w_6 ?_;refine hrr ?_;have he:=bgj (s:=s) h0;exact f9 rfl rfl (⟨cci (congrArg asI he.1.symm),cci he.2.symm,trivial⟩)
 refine w_7 ?_;refine qcx aj4 (ash n l s) ?_;refine w_2 ?_;refine hcv ?_ ?_<;>intro h1
 · refine w_5 ?_;refine hrr ?_;have he:=bi5 h0 bpx;exact f9 rfl rfl (⟨cci (congrArg asI he.1.symm),cci he.2.symm,trivial⟩)
 refine w_3 ?_;have hv:=o4 h0;refine w_6 ?_;refine c7 (ka 0 (ka 1 kn)) km (fun k=>⟨[(2,some (vA (qb n l s k))),(9,some (vI (n-1-(k:Int))))],[]⟩) n.toNat ⟨⟨zy,⟨_,rfl,(coi bpw)⟩,trivial⟩,trivial⟩ ?_;rintro k hk;refine w_6 ?_;refine hcd ?_ ?_<;>intro h2
 ·
  refine tg ?_;refine rc rfl rfl rfl rfl rfl rfl aj4 (ash n l (noA (qb n l s k) (n.toNat-1-k))) (⟨CoC.refl _,CoC.refl _,cci (apz _ _ bpw),trivial⟩) rfl rfl ?_;refine d5 ?_;refine hcb ?_ ?_<;>intro h3
  ·
   refine w_9 ?_
   first | (refine lpz (k+1) ⟨⟨⟨_, rfl, (nq ((apz _ (n.toNat-1-k) bpw).trans (congrArg asI (aoq bpx).symm)))⟩, ⟨_, rfl, (coi bpw)⟩, tt⟩, trivial⟩ ?_; show k+1<=_; omega)
         |(refine lpz (k+1) ⟨⟨⟨_,rfl,(nq (by rw[apm bpx]))⟩,⟨_,rfl,(coi bpw)⟩,tt⟩,trivial⟩ ?_;show k+1<=_;omega)
  refine w_6 ?_
  first | (refine lpz (k+1) ⟨⟨⟨_, rfl, (nq ((apz _ (n.toNat-1-k) bpw).trans (congrArg asI (aoq bpx).symm)))⟩, ⟨_, rfl, (coi bpw)⟩, tt⟩, trivial⟩ ?_; show k+1<=_; omega)
        |(refine lpz (k+1) ⟨⟨⟨_,rfl,(nq (by rw[apm bpx]))⟩,⟨_,rfl,(coi bpw)⟩,tt⟩,trivial⟩ ?_;show k+1<=_;omega)
 refine w_7 ?_;refine hrr ?_;have he:=b9g h0 bpx;obtain rfl:k=n.toNat:=by omega
 exact f9 rfl rfl (⟨cci (congrArg asI he.1.symm),cci he.2.symm,trivial⟩)
end
section
def bd1 {n:Int} (h0:0<=n) (h1:n<=16):IntKind.wrap .i64 (1*2^min n.toNat IntKind.i64.bits)=((2^n.toNat:Nat):Int):=by
 have h2:2^n.toNat<=2^16:=bol bpw bpw
 have e:(1:Int)*2^min n.toNat IntKind.i64.bits=((2^n.toNat:Nat):Int):=by
  rw[show min n.toNat IntKind.i64.bits=n.toNat from bne (by show n.toNat<=64;omega),Int.natCast_pow,Int.one_mul];rfl
 rw[e];have h3:((2^n.toNat:Nat):Int)<=65536:=by omega
 have h4:0<=((2^n.toNat:Nat):Int):=bni _;generalize ((2^n.toNat:Nat):Int)=z at *;exact rp (by simp only[inR,l8,ml];omega)
def bC:Bool->Nat->PV:=fun b _=>.raw (.bool b)
def awf(n:Int)(l:List Fd)(k:Nat):Bool:=decide (clo l (BitVec.ofNat 32 k)=ah n)
def bi6(n:Int)(l:List Fd)(i:Nat):List Bool:=(List.range (2^n.toNat)).map fun k=>decide (k<i)&&awf n l k
def bkw(n:Int)(l:List Fd):List Bool:=bi6 n l (2^n.toNat)
end
section
section
variable {n:Int}{l:List Fd}
def okA(n:Int)(l:List Fd)(i a:Nat):Bool:=awf n l i&&(List.range a).all fun b=>!(i.testBit b&&awf n l (i ^^^ 2^b))
section
variable {i a:Nat}(hv:cn n l=0)(hi:i<2^n.toNat)(ha:(a:Int)<n)(hx:i ^^^ 2^a<2^n.toNat)
include hv hi ha hx
end
end
end
section
def asb (s:AS):Nat->AS->List AS
 |0,_=>[]
 |n+1,x=>if x=0 then[]else x::asb s n ((x-1)&&&s)
def ahd(s:AS):List AS:=0::asb s (s.toNat+1) s
def sub_zero(s:AS):sub 0 s:=fq.2 fun i hi h=>by simp at h
def TsI(s:AS)(x:Nat×List AS×AS):Prop:=x.2.1++asb s x.1 x.2.2=ahd s/\x.2.2.toNat<x.1/\x.2.1.length+x.1=s.toNat+2
def b9q{r:AS}(h:r≠0):r&&&(-r)=(1:AS)<<<j1 r:=by
 obtain⟨h1,h2,h3,h4⟩:=uf h
 have e:-r = ~~~(r-1):=by
  apply bn3;have h0:r.toNat≠0:=fun e=>h (bn3 e);have:=r.isLt;rw[BitVec.toNat_neg,BitVec.toNat_not,a2i h];omega
 rw[e];apply bnj;intro i hi;have h5:=congrArg (fun z:AS=>z.getLsbD i) h4;simp only[bmy,bnx,decide_eq_true hi,bok]at h5;have h6:((1:AS)<<<j1 r).getLsbD i=decide (i=j1 r):=o5 _ i hi;rw[bmy,bnx,decide_eq_true hi,bok,h6];rw[h6]at h5;by_cases hl:i=j1 r
 · subst hl
   rw[h2]at h5 ⊢;simpa using h5
 rw[decide_eq_false hl]at h5 ⊢;cases hr:r.getLsbD i<;>rw[hr]at h5<;>simpa using h5
def bg3 (r:AS) (h:r≠0) {a:Int} (ha:a=IntKind.wrap .u32 (0-asI r)):cu .and .u32 (asI r) a=asI ((1:AS)<<<j1 r):=by
 have e:a=asI (-r):=by
  rw[ha];have h0:r.toNat≠0:=fun e=>h (bn3 e);have:=r.isLt;unfold asI;rw[BitVec.toNat_neg];simp only[IntKind.wrap,IntKind.signed,IntKind.bits];simp;omega
 rw[e,yu,b9q h]
def akg(l:List Fd)(p s:AS):Bool:=decide (sub p (clo l s))
def bhx(l:List Fd)(p x:AS):Bool:=(List.range 32).all fun a=>!(x.getLsbD a&&akg l p (noA x a))
def blb(l:List Fd)(p x r:AS):Prop:=sub r x/\∀a,a<32->x.getLsbD a=true->r.getLsbD a=true\/akg l p (noA x a)=false
def b7w {r:AS} (h:r≠0):(r&&&(r-1)).toNat<r.toNat:=by
 have h1:=a2i h;have h0:r.toNat≠0:=fun e=>h (bn3 e);rw[boy,h1];have:(r.toNat&&&(r.toNat-1))<=r.toNat-1:=Nat.and_le_right;omega
def axp(l:List Fd)(p x:AS):Bool:=akg l p x&&bhx l p x
def avy(l:List Fd)(p:AS):AS:=orL ((ahd p).filter (axp l p))
def bik(l:List Fd)(p:AS)(i:Nat):AS:=orL (((ahd p).take i).filter (axp l p))
end
section
def bkv(l:List Fd)(p x:AS)(a:Nat):Bool:=(List.range a).all fun b=>!(x.getLsbD b&&akg l p (noA x b))
def bhn(i:Nat):List AS:=(List.range i).map (BitVec.ofNat 32)
def prQ(l:List Fd)(p x:AS):Bool:=decide (sub x p)&&axp l p x
def bii(l:List Fd)(p:AS)(i:Nat):AS:=orL ((bhn i).filter (prQ l p))
section
variable {l:List Fd}{p:AS}{i:Nat}
end
def bgp(l:List Fd)(p x:AS):Bool:=!akg l p x&&decide (((clo l x&&&p)&&&~~~x)&&&~~~avy l p≠0)
def aum(l:List Fd)(p:AS):Bool:=!(ahd p).any (bgp l p)
def bhd(n:Int)(l:List Fd)(p:AS):Int:=if cn n l=0 then(if sub p (ah n)then 0 else 1)else cn n l
def bju(n:Int)(l:List Fd)(p:AS):Bool:=decide (bhd n l p=0)&&aum l p
end
section
section
variable {n:Int}{l:List Fd}
def ain {n:Int} (h0:0<=n) (h1:n<=16) {k:Nat} (hk:k<32):(ah n).getLsbD k=decide (k<n.toNat):=by
 unfold ah;rw[sg _ k hk,bne bpw]
def b8f(n:Int)(l:List Fd)(f:Fd):Bool:=decide (clo l f.lhs≠ah n)&&decide (f.rhs&&&~~~avy l (ah n)≠0)
def bim(n:Int)(l:List Fd)(i:Nat):List Fd:=((a0i n l).take i).filter (b8f n l)
def bj8(n:Int)(l:List Fd):List Fd:=(a0i n l).filter (b8f n l)
def aid(n:Int)(l:List Fd):(a0i n l).length<=2048:=by
 unfold a0i;split
 · rename_i h
   have h1:=(o4 h).2.2.1;have h2:=aca l
   have h3:(aiu l).length<=(a21 l).length:=by
    have:∀(f:Nat) (k:List Fd) (i:Nat),(tl f k i).length<=k.length:=by
     intro f
     induction f with
     |zero=>intro k i;exact bm1 _
     | succ f ih =>
      intro k i;unfold tl;split
      · rename_i hi
        split
        · exact bme (ih _ _) (by rw[m8 hi];omega)
        exact ih _ _
      exact bm1 _
    exact this _ _ _
   omega
 simp
end
end
section
def bhq(l:List Fd)(pr k:AS):Bool:=(List.range 32).all fun a=>!k.getLsbD a||decide (sub (clo l (noA k a)) pr)
def bi9(n:Int)(l:List Fd):Bool:=(b17 n l).all (bhq l (orL (b17 n l)))
def bl8(n:Int)(l:List Fd):Bool:=decide (cn n l=0)&&bi9 n l
section
variable {l:List Fd}{pr k:AS}
def bka(l:List Fd)(pr k r:AS):Prop:=sub r k/\∀a,a<32->k.getLsbD a=true->r.getLsbD a=true\/sub (clo l (noA k a)) pr
def bjo(l:List Fd)(pr k:AS)(s:Nat):Prop:=∀j,j<s->sub (BitVec.ofNat 32 j) k->sub (clo l (BitVec.ofNat 32 j)) pr
end
section
variable {n:Int}{l:List Fd}
end
end
section
def mgR(l:List Fd)(s:AS):AS:=(l.filter fun f=>decide (f.lhs=s)).foldl (fun a f=>a|||f.rhs) 0
def mgF(l:List Fd)(s:AS):Fd:=⟨s,mgR l s⟩
def ae1(l:List Fd):List Fd:=(ord (l.map Fd.lhs)).map (mgF l)
def bfo {l:List Fd} {s:AS} {i:Nat} (hi:i<l.length) (h:(l.getD i default).lhs=s):mgR (l.take (i+1)) s=mgR (l.take i) s|||(l.getD i default).rhs:=by
 unfold mgR;rw[ax hi,bn4,bmo];simp only[bnv,h,decide_true,if_true,bp8,bnq,List.foldl_nil]
def bg8 {l:List Fd} {s:AS} {i:Nat} (hi:i<l.length) (h:¬(l.getD i default).lhs=s):mgR (l.take (i+1)) s=mgR (l.take i) s:=by
 unfold mgR;rw[ax hi,bn4,bmo];simp only[bnv,h,decide_false,bp6,if_false,bp8,List.foldl_nil]
def bhm {l:List Fd} {s:AS} {i:Nat} (hi:i<l.length) (h:asI (l.getD i default).lhs=asI s):PV.raw (.int .u32 (cu .or .u32 (asI (mgR (l.take i) s)) (asI (l.getD i default).rhs)))=asC (mgR (l.take (i+1)) s):=by
 rw[bOr,bfo hi (d7.1 h)];rfl
def ays (l:List Fd):(ae1 l).length<=l.length:=by
 unfold ae1;rw[bn0];exact bme (xx _) (by rw[bn0];exact bm1 _)
end
section
open Go.Proofs
def bjf(t:AS)(l:List Fd):Prop:=∀x∈l,sub x.rhs t
def it(n:Int)(l:List Fd):List Fd:=ae1 (a0i n l)
def akc(n:Int)(l:List Fd):(it n l).length<=2048:=bme (ays _) (aid n l)
def pt(f:Fd):AS:=f.lhs|||f.rhs
section
variable {n:Int}{l:List Fd}
def nk(n:Int)(l:List Fd)(i:Nat):Bool:=((it n l).take i).any fun f=>ng n l (pt f)
def a2n {i:Nat} (hi:i<(it n l).length):nk n l (i+1)=(nk n l i||ng n l (pt ((it n l).getD i default))):=by
 unfold nk;rw[ax hi,List.any_append];simp
def auj(h:cn n l=0):ng n l (ah n)=true:=decide_eq_true ⟨h,p9 _,pg (aw2 h (p9 _)) akl⟩
def b69(h:cn n l=0):rkE n l (ah n)=0:=(b9g h (auj h)).2
def a98(n:Int)(l:List Fd):List AS:=(it n l).map pt
def b9y(n:Int)(l:List Fd):List AS:=o8 (if nk n l (it n l).length=true then a98 n l else a98 n l++[rkS n l (ah n)])
def akk(n:Int)(l:List Fd):List AS:=if cn n l=0 then b9y n l else[]
def ba1(h:¬cn n l=0):akk n l=[]:=if_neg h
def bck(h:cn n l=0):akk n l=b9y n l:=if_pos h
def aw6(n:Int)(l:List Fd):(a98 n l).length<=2048:=by unfold a98;rw[bn0];exact akc n l
def af7(n:Int)(l:List Fd):((it n l).take (it n l).length).map pt=a98 n l:=by rw[bmd];rfl
def a4k(n:Int)(l:List Fd):List AS:=if nk n l (it n l).length=true then a98 n l else a98 n l++[rkS n l (ah n)]
def a1x(h:nk n l (it n l).length=true):a4k n l=((it n l).take (it n l).length).map pt:=by rw[af7];exact if_pos h
def abu(h:nk n l (it n l).length=false):a4k n l=((it n l).take (it n l).length).map pt++[rkS n l (ah n)]:=by rw[af7];exact if_neg (by rw[h];decide)
def aw3 (n:Int) (l:List Fd):(a4k n l).length<=4096:=by
 have:=aw6 n l;unfold a4k;split
 · omega
 rw[bm2,bod];omega
def b1n{i:Nat}(hi:i<(it n l).length)(h:nk n l i=true):true=nk n l (i+1):=by rw[a2n hi,h];rfl
def b0q{i:Nat}(hi:i<(it n l).length)(h:nk n l i=false):ng n l (pt ((it n l).getD i default))=nk n l (i+1):=by rw[a2n hi,h];rfl
def b18{i:Nat}(hi:i<(it n l).length):(bif nk n l i then true else ng n l (pt ((it n l).getD i default)))=nk n l (i+1):=by rw[a2n hi];cases nk n l i<;>rfl
end
end
section
open Go.Proofs
def b6x:a6 bqh 126:=wgx Tryz.func126
def bbk:a6 bqh 69:=wgx Tryz.func69
def b8j (hM:∀k:List Fd,k.length<=16777216->a7 bqh 126 [pP (fdl k)] (af [pP (fdl (ae1 k))])) (n:Int) (l:List Fd):a7 bqh 69 [pI n,pP (fdl l)] (af [pP (fdl (it n l)),pI (cn n l)]):=by
 refine hpx (nt:=17) Tryz.func69 ?_;refine w_9 ?_;refine qcx b3s (bdl n l) ?_;refine w_7 ?_;have hml:=aid n l;refine w_2 ?_;refine qcx b6x (hM (a0i n l) bpw) ?_;refine v_4 ?_;exact CoL.refl _
def bcg:a6 bqh 23:=wgx Tryz.func23
def b3b(hM:∀k:List Fd,k.length<=16777216->a7 bqh 126 [pP (fdl k)] (af [pP (fdl (ae1 k))]))(n:Int)(l:List Fd):a7 bqh 23 [pI n,pP (fdl l)] (af [pP (asl (akk n l)),pI (cn n l)]):=by
 refine hpx (nt:=66) Tryz.func23 ?_;refine w_9 ?_;refine qcx bbk (b8j hM n l) ?_;refine l6 ?_;refine hcn ?_ ?_<;>intro h0
 · refine v_6 ?_;exact⟨CoC.one (bba (ba1 h0)),CoC.refl _,trivial⟩
 refine w_2 ?_;have hv:=o4 h0;have hcl:=akc n l;have hsl:=aw3 n l;refine jd ?_;refine cr 8 900 true 1 35 (lf sC []) bq4 rfl (CoP.sl rfl (.inr rfl) (fun h=>h) (fun i j hi _=>absurd hi (bm6 i))) (.inr rfl) rfl ?_;refine c7 (ka 0 (ka 1 (ka 24 (ka 25 kn)))) km (fun i=>⟨[(8,some (.v (.one (.ref 900 (((it n l).take i).map pt).length)))),(9,some (vB (nk n l i))),(26,some (vI i))],[(900,some (.arr true 1 35 (((it n l).take i).map pt).length (lf sC (((it n l).take i).map pt))))]⟩) ((it n l).length) ⟨⟨zy,⟨_,rfl,(cob rfl)⟩,tt⟩,uu⟩ ?_;rintro i hi;have hlen:(((it n l).take i).map pt).length<=i:=by rw[bn0,bmw];omega
 refine w_5 ?_;refine hcd ?_ ?_<;>intro h1
 ·
  refine w_7 ?_;refine m9 0 ?_;refine jd ?_;refine m9 1 ?_;refine rz9 2 true ?_;refine w_5 ?_;refine am rfl rfl ?_ ?_<;>intro r2
  ·
   have h2:=r2;(iterate 4 refine k9 (gtf r2) ?_);refine w_7 ?_
   exact lpx (i+1) ⟨⟨⟨_,rfl,(bj (a4v bpw))⟩,⟨_,rfl,(cob (by first|exact b1n (n:=n) (l:=l) (i:=i) bpw bpx|exact b0q (n:=n) (l:=l) (i:=i) bpw bpx|exact b18 (n:=n) (l:=l) (i:=i) bpw))⟩,tt⟩,⟨⟨_,rfl,(bm (a4v bpw) (CoP.of_eq (congrArg (fun z=>PV.raw (.int .u32 z)) (bOr _ _))))⟩,trivial⟩⟩
  have h2:=r2;(iterate 3 refine qy ?_ (hg:=(gff r2)));refine rc rfl rfl rfl rfl rfl rfl aj4 (ash n l (pt ((it n l).getD i default))) (⟨CoC.refl _,CoC.refl _,cci (bOr _ _),trivial⟩) rfl (gff r2) ?_;refine w_7 ?_
  exact lpx (i+1) ⟨⟨⟨_,rfl,(bj (a4v bpw))⟩,⟨_,rfl,(cob (by first|exact b1n (n:=n) (l:=l) (i:=i) bpw bpx|exact b0q (n:=n) (l:=l) (i:=i) bpw bpx|exact b18 (n:=n) (l:=l) (i:=i) bpw))⟩,tt⟩,⟨⟨_,rfl,(bm (a4v bpw) (CoP.of_eq (congrArg (fun z=>PV.raw (.int .u32 z)) (bOr _ _))))⟩,trivial⟩⟩
 obtain rfl:i=(it n l).length:=by omega
 refine dz ?_;refine yy kn km ⟨[(8,some (.v (.one (.ref 900 (a4k n l).length))))],[(900,some (.arr true 1 35 (a4k n l).length (lf sC (a4k n l))))]⟩ ?_ ?_
 ·
  refine w_5 ?_;refine hcv ?_ ?_<;>intro h3
  ·
   refine w_5 ?_;refine qcx b89 (bb5 n hv.1 hv.2.1) ?_;refine qcx b7v (b4a n l (ah n)) ?_;refine l6 ?_;refine hcn ?_ ?_<;>intro h4
   · exfalso;exact h4 (b69 h0)
   refine w_4 ?_;refine m9 3 ?_;refine rz9 4 true ?_;refine w_2 ?_;exact⟨⟨⟨_,rfl,(by first|exact fe (by rw[a1x bpx])|exact fe (by rw[abu bpx,bm2];rfl))⟩,trivial⟩,⟨⟨_,rfl,(by first|exact ja (a1x bpx) (by rw[a1x bpx])|exact bm (abu bpx) (CoP.refl _))⟩,trivial⟩⟩
  refine ej ?_;exact⟨⟨⟨_,rfl,(by first|exact fe (by rw[a1x bpx])|exact fe (by rw[abu bpx,bm2];rfl))⟩,trivial⟩,⟨⟨_,rfl,(by first|exact ja (a1x bpx) (by rw[a1x bpx])|exact bm (abu bpx) (CoP.refl _))⟩,trivial⟩⟩
 refine eq ?_;refine be 8 rfl rfl rfl ?_;refine w_2 ?_;refine qcx atj (ajn (a4k n l) bpw) ?_;refine v_3 ?_;exact⟨CoC.one (CoP.of_eq (by rw[bck h0];rfl)),cci h0.symm,trivial⟩
end
section
def Eqv(l k:List Fd):Prop:=∀s,sv l s<->sv k s
theorem Eqv.refl(l:List Fd):Eqv l l:=fun s=>Iff.rfl
theorem Eqv.trans{a b c:List Fd}(h:Eqv a b)(k:Eqv b c):Eqv a c:=fun s=>(h s).trans (k s)
theorem Eqv.clo {l k:List Fd} (h:Eqv l k) (s:AS):clo l s=clo k s :=
 pg (a4d ((h _).2 a6i) akl) (a4d ((h _).1 a6i) akl)
end
section
def bio(l:List Fd)(ps:List AS)(t:AS):Prop:=∀p∈ps,sub (clo l (t&&&p)&&&p) t
def bdg(l:List Fd)(s p:AS):AS:=s|||(clo l (s&&&p)&&&p)
def bie(l:List Fd)(ps:List AS)(s:AS):AS:=ps.foldl (bdg l) s
def PrI(l:List Fd)(ps:List AS)(z s:AS):Prop:=sub z s/\sub s (awb l ps z)
def bjj(n:Int)(l:List Fd)(i:Nat):List AS:=((ct (ah n)).take i).filter fun s=>!x6 l s
end
section
def bih(l:List Fd):Prop:=∀f∈l,∀i,i<32->f.rhs.getLsbD i=true->f.lhs.getLsbD i=false
section
variable {n:Int}{l:List Fd}
end
end
section
def axq(E:Int->Int->Prop)(R:Rw->Prop)(s:AS):Prop:=∃r,R r/\∀i:Nat,i<r.length->io s (i:Int)=true->E (r.getD i default) (i:Int)
section
variable {N:Nat}{p m:List Fd}{E:Int->Int->Prop}{R:Rw->Prop}
def ay3{s t:AS}(h:sub s t){i:Nat}(hi:io s (i:Int)=true):io t (i:Int)=true:=by
 by_cases hl:i<32
 · rw [s5 hl]at hi ⊢
   exact fq.1 h i hl hi
 rw[akb bpw]at hi;cases hi
def axq.mono {s t:AS} (h:axq E R t) (hs:sub s t):axq E R s:=by
 obtain⟨r,h1,h2⟩:=h;exact⟨r,h1,fun i hi hh=>h2 i hi (ay3 hs hh)⟩
end
section
variable {n:Int}{p m:List Fd}{ps:List AS}
end
end
section
def lvE(n:Int)(ps:List AS):Int:=if n<0\/8<n then 7 else if 64<ps.length then 3 else if ps.length=0\/¬orL ps=ah n then 1 else 0
section
variable {n:Int}{ps:List AS}{p m:List Fd}
def lsT(n:Int)(ps:List AS)(p m:List Fd):List St×(Int×List Rw)×Int:=aaw FU n (dv (my n ps)) p m
def lsC(n:Int)(ps:List AS)(p m:List Fd):Int:=if lvE n ps=0 then(if a0l n p m=0 then(lsT n ps p m).2.2 else a0l n p m)else lvE n ps
def lsB(n:Int)(ps:List AS)(p m:List Fd):Bool:=decide (lsC n ps p m=0)&&(lsT n ps p m).2.1.2.any fun r=>decide (r=a14 n)
def bl5(n:Int)(p:List Fd)(ps:List AS):Bool:=lsB n ps p []&&!ps.any (x6 p)
end
end
section
abbrev tbC(a:Int×List Rw):Nat->PV:=fun j=>[.raw (.int .i64 a.1),rl a.2].getD j .any
def lcR (n:Int) (ps:List AS) (p m:List Fd):(Int×List Rw)×List St×(Int×List Rw)×Int :=
 if lvE n ps=0 then(if a0l n p m=0 then((n,dv (my n ps)),(lsT n ps p m).1,(lsT n ps p m).2.1,(lsT n ps p m).2.2) else((0,[]),[],(0,[]),a0l n p m)) else((0,[]),[],(0,[]),lvE n ps)
section
variable {n:Int}{ps:List AS}{p m:List Fd}{l lend:List Rw}
def bfd(n:Int)(p m:List Fd)(l:List Rw)(sts:List St):List (Int×List Rw):=(trL n p m l sts).map fun t=>(n,t)
def rcR (n:Int) (ps:List AS) (p m:List Fd):List St×List (Int×List Rw)×Int :=
 if lsC n ps p m=0 then((lsT n ps p m).1,bfd n p m (dv (my n ps)) (lsT n ps p m).1,0) else([],[],lsC n ps p m)
def aqf(n:Int)(t:List Rw):Bool:=t.any fun r=>decide (r=a14 n)
def prX(n:Int)(ps:List AS)(p m:List Fd):Int:=idx (fun a:Int×List Rw=>aqf n a.2) (rcR n ps p m).2.1
def prC(n:Int)(ps:List AS)(p m:List Fd):Int:=if(rcR n ps p m).2.2=0 then(if prX n ps p m<0 then 11 else 0) else(rcR n ps p m).2.2
def prS(n:Int)(ps:List AS)(p m:List Fd):List St:=if(rcR n ps p m).2.2=0 then(if prX n ps p m<0 then[] else(rcR n ps p m).1.take (prX n ps p m).toNat) else[]
end
end
section
inductive Lf (l:List Fd):AS->AS->Prop
 |leaf {s:AS}:x6 l s=false->Lf l s s
 |left {s q:AS}:x6 l s=true->Lf l (spA l s) q->Lf l s q
 |right {s q:AS}:x6 l s=true->Lf l (spB l s) q->Lf l s q
def bbi (l:List Fd):Nat->AS->List AS
 |0,s=>[s]
 |k+1,s=>if x6 l s=true then bbi l k (spA l s)++bbi l k (spB l s) else[s]
end
section
open Go.Proofs
def u8A(b:BitVec 8):AS:=b.setWidth 32
abbrev u8C:BitVec 8->Nat->PV:=fun b _=>.raw (.int .u8 (b.toNat:Int))
end
section
def bc9{s:AS}{i:Nat}(h:s.getLsbD i=true):i<32:=BitVec.lt_of_getLsbD h
def azo{s t:AS}{i:Nat}(hi:i<32):(s&&&~~~t).getLsbD i=(s.getLsbD i&&!t.getLsbD i):=by simp[hi]
def b93(a:Nat):AS:=1#32<<<a
def yf(m:Fd)(b:AS):Bool:=decide (b&&&m.lhs=0)&&(decide (b&&&m.rhs≠0)&&decide (b&&&~~~m.rhs≠0))
def hdB(m:Fd)(b:AS):AS:=if yf m b=true then b&&&m.rhs else b
def tlB(m:Fd)(b:AS):List AS:=if yf m b=true then[b&&&~~~m.rhs] else[]
def stB(m:Fd)(l:List AS)(i:Nat):List AS:=(l.take i).map (hdB m)++l.drop i++(l.take i).flatMap (tlB m)
def rdB(m:Fd)(l:List AS):List AS:=l.map (hdB m)++l.flatMap (tlB m)
def b9s(ms:List Fd)(l:List AS):List AS:=ms.foldl (fun l m=>rdB m l) l
def b90:List Fd->List AS->Bool
 | [],_=>false
 |m::ms,l=>l.any (yf m)||b90 ms (rdB m l)
def az0 (ms:List Fd):Nat->List AS->List AS
 |0,l=>l
 |f+1,l=>if b90 ms l=true then az0 ms f (b9s ms l)else b9s ms l
def muB:List AS->Nat
 | []=>0
 |b::l=>b.toNat*b.toNat+muB l
def b00{m:Fd}{b:AS}:yf m b=true<->b&&&m.lhs=0/\b&&&m.rhs≠0/\b&&&~~~m.rhs≠0:=by simp[yf]
structure Blk (ms:List Fd) (rest:AS) (bs:List AS):Prop where
 nz:∀b∈bs,b≠0
 cnt:∀a,a<32->bs.countP (fun b=>b.getLsbD a)=if rest.getLsbD a=true then 1 else 0
 ind:∀G:AS->Prop,G rest->(∀m∈ms,∀b,G b->yf m b=true->G (b&&&m.rhs)/\G (b&&&~~~m.rhs))->∀b∈bs,G b
section
variable {bs:List AS}{ms:List Fd}{rest:AS}
theorem Blk.rd (h:Blk ms rest bs) {m:Fd} (hm:m∈ms):Blk ms rest (rdB m bs):=by
 have hmem:∀{b:AS},b∈rdB m bs->∃b0∈bs,(yf m b0=false/\b=b0)\/(yf m b0=true/\(b=b0&&&m.rhs\/b=b0&&&~~~m.rhs)):=by
  intro b hb;unfold rdB at hb
  rcases bmg.1 hb with hb|hb
  · obtain ⟨b0,h0,rfl⟩:=bml.1 hb
    refine⟨b0,h0, ?_⟩;cases hs:yf m b0<;>simp[hdB,hs]
  obtain⟨b0,h0,hb⟩:=bpv.1 hb;refine⟨b0,h0, ?_⟩;cases hs:yf m b0
  · simp[tlB,hs]at hb
  simp[tlB,hs]at hb;exact .inr ⟨rfl, .inr hb⟩
 refine⟨fun b hb=>?_,fun a ha=>?_,fun G h0 hG b hb=>?_⟩
 · obtain ⟨b0,h0,⟨_,rfl⟩|⟨hs,hb⟩⟩:=hmem hb
   · exact h.nz _ h0
   obtain⟨_,h2,h3⟩:=b00.1 hs
   rcases hb with rfl|rfl
   · exact h2
   exact h3
 · rw [<- h.cnt a ha]
   have:∀l:List AS,(l.map (hdB m)).countP (fun b=>b.getLsbD a)+(l.flatMap (tlB m)).countP (fun b=>b.getLsbD a)=l.countP (fun b=>b.getLsbD a):=by
    intro l
    induction l with
    |nil=>rfl
    | cons b l ih =>
     rw[bnr,List.flatMap_cons,List.countP_append,boz,boz,<- ih];cases hs:yf m b
     · simp[hdB,tlB,hs];omega
     simp only[hdB,tlB,hs,if_true,boz,List.countP_nil,azo ha,bmy];cases b.getLsbD a<;>cases m.rhs.getLsbD a<;>simp<;>omega
   unfold rdB;rw[List.countP_append];exact this bs
 obtain⟨b0,h1,⟨_,rfl⟩|⟨hs,hb⟩⟩:=hmem hb
 · exact h.ind G h0 hG _ h1
 obtain⟨g1,g2⟩:=hG m hm b0 (h.ind G h0 hG _ h1) hs
 rcases hb with rfl|rfl
 · exact g1
 exact g2
def aik(rest:AS):List AS:=if rest=0 then[] else[rest]
theorem Blk.start (ms:List Fd) (rest:AS):Blk ms rest (aik rest):=by
 unfold aik;by_cases h:rest=0
 · subst h
   simp only[if_true];exact⟨fun _ h=>by(cases h),fun a ha=>by simp,fun _ _ _ _ h=>by cases h⟩
 rw[if_neg h];exact⟨fun b hb=>by(simp at hb;subst hb;exact h),fun a ha=>by simp[boz],fun G h0 _ b hb=>by(simp at hb;subst hb;exact h0)⟩
def blks(ms:List Fd)(rest:AS):List AS:=az0 ms 18446744073709551616 (aik rest)
def ar5 {p:AS->Bool} {l:List AS} (h:l.countP p<=1) {a b:AS} (ha:a∈l) (hb:b∈l) (pa:p a=true) (pb:p b=true):a=b:=by
 rw[List.countP_eq_length_filter]at h;have h1:a∈l.filter p:=bnl.2 ⟨ha,pa⟩;have h2:b∈l.filter p:=bnl.2 ⟨hb,pb⟩
 cases hl:l.filter p with
 |nil=>rw[hl]at h1;cases h1
 | cons x r =>
  rw[hl]at h h1 h2
  cases r with
  |nil=>simp at h1 h2;rw[h1,h2]
  |cons=>simp at h
theorem Blk.one (h:Blk ms rest bs) {b b':AS} (hb:b∈bs) (hb':b'∈bs) {a:Nat} (h1:b.getLsbD a=true) (h2:b'.getLsbD a=true):b=b':=by
 refine ar5 (p:=fun b=>b.getLsbD a) ?_ hb hb' h1 h2;rw[h.cnt a (bc9 h1)];split<;>omega
theorem Blk.sub (h:Blk ms rest bs) {b:AS} (hb:b∈bs):Go.Hx.sub b rest:=fq.2 fun a ha hba=>by
 have h1:=h.cnt a ha;have h2:0<bs.countP (fun b=>b.getLsbD a):=List.countP_pos_iff.2 ⟨b,hb,hba⟩
 cases hr:rest.getLsbD a with
 |true=>rfl
 |false=>rw[hr]at h1;simp only[bp6,if_false]at h1;omega
end
end
section
def sgl(f:Fd):List Fd:=(bc f.rhs).map fun a=>⟨f.lhs,b93 a⟩
def bf1(fs ms:List Fd):List Fd:=ms++fs.flatMap sgl
def aiz(T:List AS)(r:AS):List AS:=if r∈T then T else T++[r]
def arx {T:List AS} {r:AS} (h:T.Nodup):(aiz T r).Nodup:=by
 unfold aiz;split
 · exact h
 rename_i hr;rw[List.nodup_append];exact⟨h,by simp,fun a ha b hb=>by simp at hb;subst hb;rintro rfl;exact hr ha⟩
def bei(s:AS)(o:List AS)(T:List AS):List AS:=T.foldl (fun o r=>aiz o (r&&&~~~s)) o
def ba9(T:List AS)(s:AS):List AS:=bei s [] T
def bcm(d:Fd)(r k:AS):AS:=(r&&&(d.lhs|||d.rhs))|||(k&&&~~~(d.lhs|||d.rhs))
def agB(d:Fd)(r k:AS):Bool:=decide ((r ^^^ k)&&&d.lhs=0)
structure bed (fs ms:List Fd) (T:List AS):Prop where
 fd:∀d∈fs,∀r∈T,∀k∈T,agB d r k=true->(r ^^^ k)&&&d.rhs=0
 mv:∀d∈ms,∀r∈T,∀k∈T,agB d r k=true->bcm d r k∈T
def bfu(fs:List Fd)(bs:List AS)(a:Nat):Prop:=b93 a∈bs/\∃f∈fs,f.rhs.getLsbD a=true/\f.lhs.getLsbD a=false
structure JT (fs:List Fd) (bs:List AS) (rest:AS) (T:List AS):Prop where
 z:(0:AS)∈T
 r:∀r∈T,sub r rest/\∀b∈bs,b&&&r=0\/sub b r
 top:∃L∈T,(∀r∈T,sub r L)/\∀a,a<32->rest.getLsbD a=true->L.getLsbD a=false->bfu fs bs a
section
variable {fs ms:List Fd}{bs:List AS}{rest:AS}{T:List AS}
def bja(T:List AS)(b:AS):Prop:=∀r∈T,∀k∈T,((r&&&b)|||(k&&&~~~b))∈T
structure blh (fs ms:List Fd) (bs:List AS) (rest:AS) (T:List AS):Prop where
 j:JT fs bs rest T
 c:bed fs ms T
def qB(T:List AS)(L x rest y:AS):Prop:=y≠0/\sub y rest/\(L&&&~~~(x|||y))∈T
end
end
section
def bbt:List AS->Nat
 | []=>0
 |b::l=>b.toNat+bbt l
def OkB(l:List AS):Prop:=bbt l<4294967296/\∀b∈l,b≠0
def bl2(l:List AS)(i:Nat):Nat->Nat->PV:=fun k c=>if k<i then .any else sC (l.getD k default) c
structure BkI (ms:List Fd) (R:List AS) (x:Nat×List AS×Bool):Prop where
 ok:OkB x.2.1
 t:x.2.2=true->az0 ms x.1 x.2.1=R/\muB x.2.1<x.1
 f:x.2.2=false->x.2.1=R
def ckB(n:Int)(l m:List Fd)(s:AS):Int:=if a0l n l m=0 then(if s>>>n.toNat=0 then 0 else 1)else a0l n l m
def bjt(fs ms:List Fd)(i k:Nat):List Fd:=ms++(fs.take i).flatMap sgl++(sgl (fs.getD i default)).take k
end
section
open Go.Proofs
def bk7(x:Nat×List AS×Bool):Nat:=x.1+(bif x.2.2 then 1 else 0)
end
section
def bi3(b:AS)(f:Fd):Bool:=!decide ((f.rhs&&&~~~f.lhs)&&&b=0)
def b22(l:List Fd)(o b:AS):AS:=if bsz b=1 then(if l.any (bi3 b)=true then o|||b else o)else o
def bgo(l:List Fd)(o:AS)(bs:List AS):AS:=bs.foldl (b22 l) o
section
variable {l:List Fd}{o:AS}{bs:List AS}{i:Nat}
end
def ay9(n:Int)(l m:List Fd)(x:AS):List AS:=ord (blks (bf1 l m) (ah n&&&~~~x))
def bkd(n:Int)(l m:List Fd)(x:AS):List AS:=if ckB n l m x=0 then ay9 n l m x else[]
def bav(n:Int)(l m:List Fd)(x:AS):AS:=bgo l x (ay9 n l m x)
def bjk(n:Int)(l m:List Fd)(x:AS):AS:=if ckB n l m x=0 then bav n l m x else 0
def bhw(p:AS)(bs:List AS):List AS:=(bs.filter fun b=>!decide (b&&&p=0)).map fun b=>b&&&p
def awq(n:Int)(l m:List Fd)(x p:AS):List AS:=ord (bhw p (ay9 n l m x))
def ck4(n:Int)(l m:List Fd)(s:AS):Int:=if n<0\/8<n then 7 else ckB n l m s
def bl4(n:Int)(l m:List Fd)(x p:AS):List AS:=if ck4 n l m (x|||p)=0 then awq n l m x p else[]
def bho(n:Int)(l m:List Fd)(p x:AS):Option Fd:=if p&&&~~~(bav n l m x)=0 then none else if 1<(awq n l m x p).length then some ⟨x,(awq n l m x p).getD 0 default⟩else none
def az8(n:Int)(l m:List Fd)(p:AS):Option Fd:=(ct p).findSome? (bho n l m p)
def axl:Option Fd->Fd×Bool
 |some v=>(v,true)
 |none=>(⟨0,0⟩,false)
def bh1(n:Int)(l m:List Fd)(p:AS):Fd×Bool:=if ck4 n l m p=0 then axl (az8 n l m p) else(⟨0,0⟩,false)
def bil(V:AS->Option Fd):Prop:=∀p v,V p=some v->sub (v.lhs|||v.rhs) p/\v.lhs|||v.rhs≠p/\p&&&~~~v.rhs≠p
section
variable {V:AS->Option Fd}
def vF(V:AS->Option Fd)(s:AS):Fd:=(axl (V s)).1
def vBo(V:AS->Option Fd)(s:AS):Bool:=(axl (V s)).2
def b7t(V:AS->Option Fd)(s:AS):AS:=(vF V s).lhs|||(vF V s).rhs
def bcq(V:AS->Option Fd)(s:AS):AS:=s&&&~~~(vF V s).rhs
def ai0 (V:AS->Option Fd):Nat->List AS->List AS->List AS
 |0,_,out=>out
 | n+1,todo,out =>
  if todo.length=0 then out
  else if vBo V (todo.getD (todo.length-1) default)=true then ai0 V n (todo.take (todo.length-1)++[b7t V (todo.getD (todo.length-1) default),bcq V (todo.getD (todo.length-1) default)]) out
  else ai0 V n (todo.take (todo.length-1)) (out++[todo.getD (todo.length-1) default])
def bjn(V:AS->Option Fd)(p0:AS)(x:Nat×List AS×List AS):Prop:=ai0 V x.1 x.2.1 x.2.2=ai0 V 6562 [p0] []/\b9t x.2.1<x.1/\x.2.2.length+x.1<=6562
def lvG (V:AS->Option Fd):Nat->AS->List AS
 |0,s=>[s]
 |n+1,s=>if vBo V s=true then lvG V n (b7t V s)++lvG V n (bcq V s) else[s]
end
def bgl(n:Int)(l m:List Fd):List AS:=ai0 (az8 n l m) 6562 [ah n] []
def bl9(n:Int)(l m:List Fd):List AS:=if ck4 n l m 0=0 then o8 (bgl n l m) else[]
end
section
open Go.Proofs
def is4(n:Int)(l m:List Fd):Bool:=if ck4 n l m 0=0 then !(bh1 n l m (ah n)).2 else false
end
section
structure Mx where
 d:Dps
 m:List Dp
deriving Inhabited
def Mx.mv(x:Mx):List Fd:=x.m.map (Dp.fd x.d.num)
def Mx.c (x:Mx):Nat->PV
 |0=>x.d.c 0
 |1=>x.d.c 1
 |2=>dpl x.m
 |_=>.any
abbrev Mx.pc(x:Mx):PC:=.agg [x.c 0,x.c 1,x.c 2]
def Mx.ok(x:Mx):Bool:=decide (x.d.l.length<=6)&&decide (x.m.length<=4)
def blm(n:Int)(l m:List Fd)(ps:List AS):Int:=if ck4 n l m 0=0 then lsC n ps l m else ck4 n l m 0
def bkl(n:Int)(l m:List Fd)(ps:List AS):Bool:=if ck4 n l m 0=0 then(if lsC n ps l m=0 then lsB n ps l m&&ps.all (fun p=>!vBo (az8 n l m) p)else false)else false
end
section
open Go.Proofs Go.Proofs.YtmoggbnlhllhaaaGreatDoor
open Go.RowKit Go.ChangeShapes Go.WideShapes Go.ChangeAt
def s2C (x:AS×AS):Nat->PV
 |0=>asC x.1
 |1=>asC x.2
 |_=>.any
end
section
open Go.Proofs Go.Proofs.YtmoggbnlhllhaaaGreatDoor
open Go.RowKit Go.ChangeShapes Go.WideShapes Go.ChangeAt
def awd:Rd bqh 5 1 bau:=(bdh Tryz.underlying5).co id fun a j hj=>by obtain rfl:j=0:=bpw;exact CoP.refl _
def azm:Rd bqh 65 1 ayv:=(awh Tryz.underlying65 (by kernel_rfl) bpw awd).co id fun a j hj=>by obtain rfl:j=0:=bpw;exact CoP.refl _
def bfb:RdB bqh 22 1 (azr 1 ayv) fun b l=>l.length<=b :=
 (atb (B:=fun _ _=>True) (fun _ _ _ _ _=>trivial) Tryz.underlying22 (by kernel_rfl) bpw azm.toB).co id (fun b a h=>h.1) fun a j hj=>CoP.refl _
def bhe:RdB bqh 24 3 jw.c fun b x=>x.rows.length<=b:=by
 intro H enc w sp held fuel cs x h;obtain⟨hl,n,hf⟩:=asd Tryz.underlying24 h;obtain⟨y0,e0⟩:=hf 0 _ rfl;obtain⟨y1,e1⟩:=hf 1 _ rfl;obtain⟨y2,e2⟩:=hf 2 _ rfl;obtain⟨a0,_,h0⟩:=a4w (fun _ _ _ _ _=>trivial) awd.toB e0;obtain⟨a1,_,h1⟩:=a4w (fun _ _ _ _ _=>trivial) awd.toB e1;obtain⟨a2,b2,h2⟩:=a4w (B:=fun b (l:List (List UInt8))=>l.length<=b) (fun _ _ _ h k=>bme k h) bfb e2;refine⟨hl.trans (by kernel_rfl),(⟨a0,a1,a2⟩:jw),b2,fun j hj=>?_⟩
 match j,hj with
 |0,_=>exact h0 0 bpw
 |1,_=>exact h1 0 bpw
 |2,_=>exact h2 0 bpw
def b8w:bqh.readableRec 24=true/\24<bqh.types.size:=⟨by kernel_rfl,of_decide_eq_true (by kernel_rfl)⟩
end
section
def sgn(a b:Int):Int:=if a<b then -1 else if b<a then 1 else 0
def bAt(s:ByteArray)(i:Nat):Int:=ce s i
def ip:List UInt8->List UInt8->Int
 | [],[]=>0
 | [],_::_=>-1
 |_::_,[]=>1
 |x::xs,y::ys=>if x=y then ip xs ys else sgn x.toNat y.toNat
abbrev bl(s:ByteArray):List UInt8:=s.data.toList
def n5(a b:ByteArray):Int:=ip (bl a) (bl b)
def y5(s:ByteArray):(bl s).length=s.size:=bn2
def af6:∀{a b:List UInt8},ip a b=0<->a=b
 | [],[]=>by simp[ip]
 | [],_::_=>by simp[ip]
 |_::_,[]=>by simp[ip]
 | x::xs,y::ys=>by
  simp only[ip];by_cases h:x=y
  · simp[h,af6]
  have:¬x.toNat=y.toNat:=fun e=>h (UInt8.toNat_inj.1 e);simp only[h,if_false,sgn,List.cons.injEq,false_and,iff_false]
  repeat' split
  all_goals omega
def a8t {a b:ByteArray}:n5 a b=0<->a=b:=by
 unfold n5;rw[af6];exact⟨fun h=>ByteArray.ext (Array.ext' h),fun h=>by rw[h]⟩
def j9 (a b:Val):Int :=
 if sgn a.kind b.kind≠0 then sgn a.kind b.kind else if sgn a.num b.num≠0 then sgn a.num b.num else n5 a.str b.str
def nn {a b:Int}:sgn a b=0<->a=b:=by
 unfold sgn
 repeat' split
 all_goals omega
def atn{a b:Val}:j9 a b=0<->a=b:=by
 unfold j9;cases a;cases b;simp only[Val.mk.injEq];split
 · rename_i h;rw[Ne,nn]at h
   constructor
   · intro e;rw[nn]at e;exact absurd e h
   rintro⟨e,_⟩;exact absurd e h
 rename_i h;rw[Ne,nn,bou]at h;split
 · rename_i h2;rw[Ne,nn]at h2
   constructor
   · intro e;rw[nn]at e;exact absurd e h2
   rintro⟨_,e,_⟩;exact absurd e h2
 rename_i h2;rw[Ne,nn,bou]at h2;rw[a8t];exact⟨fun e=>⟨h,h2,e⟩,fun e=>e.2.2⟩
def bdx:List Val->List Val->Int
 | [],[]=>0
 | [],_::_=>-1
 |_::_,[]=>1
 |x::xs,y::ys=>if j9 x y≠0 then j9 x y else bdx xs ys
end
section
open Go.Proofs Go.RowKit Go.Sort
structure Tot {α:Type} (c:α->α->Int):Prop where
 anti:∀a b,c b a=- c a b
 zero:∀a b,c a b=0<->a=b
 tr:∀a b d,c a b<0->c b d<0->c a d<0
section
variable {α:Type}{c:α->α->Int}
theorem Tot.self(h:Tot c)(a:α):c a a=0:=(h.zero a a).2 rfl
theorem Tot.tri (h:Tot c) {a b:α} (hab:a≠b):c a b<0\/c b a<0:=by
 have h1:=h.anti a b;have h2:c a b≠0:=fun e=>hab ((h.zero a b).1 e);omega
theorem Tot.swo (h:Tot c):SWO (ltOf c) where
 irrefl x:=by unfold ltOf;rw[h.self];rfl
 trans x y z h1 h2:=by
  unfold ltOf at *;exact decide_eq_true (h.tr x y z (of_decide_eq_true h1) (of_decide_eq_true h2))
 ntrans x y z h1 h2:=by
  unfold ltOf at *;refine decide_eq_false fun hxz=>?_;have h1:=of_decide_eq_false h1;have h2:=of_decide_eq_false h2;have ha:=h.anti x y;by_cases e:x=y
  · subst e;exact h2 hxz
  have:c x y≠0:=fun e2=>e ((h.zero x y).1 e2);exact h2 (h.tr y x z bpw hxz)
abbrev Asc(c:α->α->Int)(l:List α):Prop:=l.Pairwise fun a b=>c a b<0
theorem Tot.ext (h:Tot c):∀{l m:List α},Asc c l->Asc c m->(∀x,x∈l<->x∈m)->l=m
 | [],[],_,_,_=>rfl
 | [],y::m,_,_,e=>by have:=(e y).2 bpz;cases this
 |x::l,[],_,_,e=>by have:=(e x).1 bpz;cases this
 | x :: l,y::m,h1,h2,e=>by
  have h1':=bmn.1 h1;have h2':=bmn.1 h2
  have hxy:x=y:=by
   apply Classical.byContradiction;intro hne
   have hx:x∈m:=by
    have:=(e x).1 bpz
    rcases bm9.1 this with e2|e2
    · exact absurd e2 hne
    exact e2
   have hy:y∈l:=by
    have:=(e y).2 bpz
    rcases bm9.1 this with e2|e2
    · exact absurd e2.symm hne
    exact e2
   have a1:=h2'.1 x hx;have a2:=h1'.1 y hy;have a3:=h.anti x y;omega
  subst hxy;refine congrArg (x::·) (Tot.ext h h1'.2 h2'.2 fun z=>⟨fun hz=>?_,fun hz=>?_⟩)
  · have:=(e z).1 (by simp[hz])
    rcases bm9.1 this with rfl|e2
    · have:=h1'.1 z hz;rw[h.self]at this;omega
    exact e2
  have:=(e z).2 (by simp[hz])
  rcases bm9.1 this with rfl|e2
  · have:=h2'.1 z hz;rw[h.self]at this;omega
  exact e2
def b8i(c:α->α->Int)(l:List α):List α:=l.mergeSort fun x y=>!(ltOf c) y x
theorem Tot.srt (h:Tot c) (l:List α):(b8i c l).Pairwise fun a b=>¬c b a<0:=by
 have:=List.pairwise_mergeSort (le:=fun x y:α=>!(ltOf c) y x) (fun a b d h1 h2=>by
  simp only[bn8]at *
  exact h.swo.ntrans _ _ _ h2 h1) (fun a b=>by
  simp only[bnf,bn8,ltOf,decide_eq_false_iff_not];have:=h.anti a b
  omega) l
 refine this.imp fun {a b} hab=>?_;simpa [ltOf]using hab
end
def aek:Tot sgn:=⟨fun a b=>by unfold sgn;repeat' split<;>omega,fun a b=>nn,fun a b d h1 h2=>by
 unfold sgn at *
 repeat' split at h1
 all_goals repeat' split at h2
 all_goals repeat' split
 all_goals omega⟩
def a7f{a b:Int}:sgn a b<0<->a<b:=by unfold sgn;repeat' split<;>omega
def agb:∀(a b:List UInt8),ip b a=- ip a b
 | [],[]=>rfl
 | [],_::_=>rfl
 |_::_,[]=>rfl
 | x :: xs,y::ys=>by
  unfold ip;by_cases h:x=y
  · subst h
    simp[agb xs ys]
  rw[if_neg h,if_neg (fun e=>h e.symm)];exact aek.anti _ _
def anm:∀(a b d:List UInt8),ip a b<0->ip b d<0->ip a d<0
 | [],[],_,h1,_=>by simp[ip]at h1
 | [],_::_,[],_,h2=>by simp[ip]at h2
 | [],_::_,_::_,_,_=>by simp[ip]
 |_::_,[],_,h1,_=>by simp[ip]at h1
 |_::_,_::_,[],_,h2=>by simp[ip]at h2
 | x :: xs,y::ys,z::zs,h1,h2=>by
  unfold ip at *;by_cases e1:x=y
  · subst e1
    rw[if_pos rfl]at h1;by_cases e2:x=z
    · subst e2
      rw[if_pos rfl]at h2 ⊢;exact anm xs ys zs h1 h2
    rw[if_neg e2]at h2 ⊢;exact h2
  rw[if_neg e1]at h1;by_cases e2:y=z
  · subst e2
    rw[if_neg e1];exact h1
  rw[if_neg e2]at h2;rw[a7f]at h1 h2;rw[if_neg (fun e=>by subst e;omega),a7f];omega
def an3:Tot n5:=⟨fun a b=>agb _ _,fun a b=>a8t,fun a b d=>anm _ _ _⟩
def aup {x y:Int}:(if x≠0 then x else y)<0<->x<0\/(x=0/\y<0):=by
 split<;>omega
def b6v {a b:Val}:j9 a b<0<->a.kind<b.kind\/(a.kind=b.kind/\(a.num<b.num\/(a.num=b.num/\n5 a.str b.str<0))):=by
 unfold j9;rw[aup,aup,a7f,a7f,nn,nn]
def anc:Tot j9:=⟨fun a b=>by
 unfold j9;rw[aek.anti a.kind b.kind,aek.anti a.num b.num,an3.anti a.str b.str]
 repeat' split
 all_goals omega,fun a b=>atn,fun a b d h1 h2=>by
 rw[b6v]at *
 rcases h1 with h1|⟨e1,h1⟩<;>rcases h2 with h2|⟨e2,h2⟩
 · exact .inl bpw
 · exact .inl bpw
 · exact .inl bpw
 refine .inr ⟨by omega, ?_⟩
 rcases h1 with h1|⟨f1,h1⟩<;>rcases h2 with h2|⟨f2,h2⟩
 · exact .inl bpw
 · exact .inl bpw
 · exact .inl bpw
 exact .inr ⟨by omega,an3.tr _ _ _ h1 h2⟩⟩
end
end Go.Hx

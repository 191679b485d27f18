/- A part of the proof: X28 Ch24 Cc1 Cc2 Cc3 Ls1 Cs24 Cs26 V25 Cs27 Cs28 Cs30 V29. -/
import Derived.Test.YtkkenjdfbojdlaaGreatDoorGx22
import Derived.Test.YtkkenjdfbojdlaaGreatDoorGx29
set_option linter.all false
set_option maxRecDepth 100000
namespace Go.Hx
section
open Go.Proofs
theorem b4b:goodFn Tryz.prog 132:=wgx Tryz.func132
theorem b67 (F:Nat) (n:Int) (l:List Rw) (p m:List Fd) (hF:tok n l = true -> muC l.flatten l < F) (hFb:F <= 4000000000):a7 Tryz.prog 132 [pT n l,pP (fdl p),pP (fdl m)] (ae [pP (stl (j8 F n l p m).1),pT (j8 F n l p m).2.1.1 (j8 F n l p m).2.1.2,pI (j8 F n l p m).2.2]):=by
 refine hpx (nt:=63) Tryz.func132 ?_;refine sx7 ?_;refine m9 0 ?_;refine qy ?_;refine m9 1 ?_;refine w_6 ?_;refine qcx af3 (aa1 n l) ?_;refine w_2 ?_;refine hcv (fun h0=>?_) (fun h0=>?_)
 · refine w_8 ?_;refine ⟨.inr rfl, ?_⟩;have hk1:ckE n l p m = 1:=if_neg bp5;have he:=a9a (F:=F) (n:=n) (l:=l) (p:=p) (m:=m) bos;exact f9 rfl rfl (by rw [he,hk1];exact ⟨CoC.one (CoP.sl rfl (.inr rfl) (fun _=>rfl) (fun i j hi _=>absurd hi (bkp i))),CoC.agg ⟨CoP.refl _,bf,trivial⟩,CoC.refl _,trivial⟩)
 have hT:tok n l = true:=by simp_all
 refine w_8 ?_;refine qcx aby (a48 n p m) ?_;refine w_7 ?_;refine hcn (fun h1=>?_) (fun h1=>?_)
 · refine w_9 ?_;refine ⟨.inr rfl, ?_⟩;have hk1:ckE n l p m = c8 n p m:=if_pos hT;have he:=a9a (F:=F) (n:=n) (l:=l) (p:=p) (m:=m) (by rw [hk1];assumption);exact f9 rfl rfl (by rw [he,hk1];exact ⟨CoC.one (CoP.sl rfl (.inr rfl) (fun _=>rfl) (fun i j hi _=>absurd hi (bkp i))),CoC.agg ⟨CoP.refl _,bf,trivial⟩,CoC.refl _,trivial⟩)
 have hbe:c8 n p m = 0:=by assumption
 have hck:ckE n l p m = 0:=(if_pos hT).trans hbe;obtain ⟨hn0,hn16,hpl,hpa,hml,_⟩:=kb hbe;obtain ⟨_,_,hl256,hrow⟩:=jc hT;have hbig:∀ i,i < l.length -> (l.getD i default).length <= 17592186044416:=fun i hi=>by rw [hrow i hi];omega
 refine w_7 ?_;refine qcx aee (atj l hbig bos) ?_;refine qy ?_;refine m9 2 ?_;refine w_7 ?_;refine cj 11 900 true 4 129 (lf St.c []) boz rfl (CoP.sl rfl (.inr rfl) (fun h=>h) (fun i j hi _=>absurd hi (bkp i))) (.inr rfl) rfl ?_;refine a47 ?_;refine a6 (ι:=Nat × List Rw × List St) ⟨[(1,some _),(2,some _),(7,some _),(10,some _)],[(1,some _)]⟩ ⟨⟨c9,c9,c9,c9,trivial⟩,⟨u9,trivial⟩⟩ (fun x=>⟨[(11,some (.v (.one (.ref 900 x.2.2.length))))],[(2,some (.box [.p (.raw (.int .i64 n)), .p (rl x.2.1)])),(900,some (.arr true 4 129 x.2.2.length (lf St.c x.2.2)))]⟩) (fun x=>StI F n l p m x) (fun x=>x.1) ((F,l,[])) (StI.start hT (hF hT)) ⟨⟨zy,trivial⟩,⟨u9,u9,trivial⟩⟩ ?_;rintro x hX;have hXu:=hX.u;have hXb:=hX.b;refine w_6 ?_;refine qcx b94 ((a9d (p:=p) (m:=m) hX.t ▸ bbc n x.2.1 p m hX.t hpl hml)) ?_;refine w_3 ?_;refine m9 3 ?_;refine w_9 ?_;refine hcv (fun h2=>?_) (fun h2=>?_)
 · have hS:=apg (by simpa [a9d hX.t] using h2);refine w_9 ?_;refine av 6 rfl rfl rfl ?_;refine jn ?_;refine ⟨.inr rfl, ?_⟩;have he:=(up hck).trans (hX.fin hS);exact f9 rfl rfl (by rw [he];exact CoL.refl _)
 have hS:=aoz (false,0,0,0) (by simpa [a9d hX.t] using h2);refine w_7 ?_;refine qcx aoq (age n x.2.1 p m ((eu x.2.1 p m).getD (false,0,0,0)) ((if_pos hX.t).trans hbe) (a7e hS)) ?_;refine w_3 ?_;refine m9 4 ?_;refine w_9 ?_;refine hcn (fun h3=>?_) (fun h3=>?_)
 · refine w_9 ?_;refine ⟨.inr rfl, ?_⟩;have he:=(up hck).trans (hX.err hS bot);exact f9 rfl rfl (by rw [he];exact ⟨CoC.one (CoP.sl rfl (.inr rfl) (fun _=>rfl) (fun i j hi _=>absurd hi (bkp i))),CoC.agg ⟨CoP.refl _,bf,trivial⟩,CoC.refl _,trivial⟩)
 have hnx:=hX.next hpa hS bot
 refine w_4 ?_;refine m9 5 ?_;refine r9 6 true ?_;refine w_5 ?_;refine ⟨(x.1 - 1,(dx n x.2.1 p m ((eu x.2.1 p m).getD (false,0,0,0))).2.1,x.2.2 ++ [((eu x.2.1 p m).getD (false,0,0,0))]), ?_, ?_, ?_⟩
 · exact hnx.2
 · show x.1 - 1 < x.1
   omega
 exact ⟨⟨⟨_,rfl,(c7 rfl)⟩,c9,c9,c9,c9,trivial⟩,⟨⟨_,rfl,⟨CoP.of_eq (by rw [hnx.1]),CoH.refl _,trivial⟩⟩,⟨_,rfl,(a7o rfl (fun j hj=>by match j,hj with | 0,_=>exact CoP.refl _ | 1,_=>exact CoP.refl _ | 2,_=>exact CoP.refl _ | 3,_=>exact CoP.refl _) rfl)⟩,u9,trivial⟩⟩
end
section
theorem b70 {n:Int} (h0:0 <= n) (h1:n <= 16) {x:Fd}:inU n x = true <-> sub (x.lhs ||| x.rhs) (aa n):=by
 rw [a3u h0 h1];unfold inU;rw [decide_eq_true_iff]
end
section
def AgE (E:Int -> Int -> Prop) (a b:Rw) (s:AS):Prop:=∀ i:Nat,i < a.length -> dq s (i:Int) = true -> E (a.getD i default) (b.getD i default)
structure Mdl (N:Nat) (p m:List Fd) (E:Int -> Int -> Prop) (R:Rw -> Prop):Prop where
 refl:∀ x,E x x
 symm:∀ {x y},E x y -> E y x
 trans:∀ {x y z},E x y -> E y z -> E x z
 len:∀ {r},R r -> r.length = N
 cong:∀ {r r':Rw},R r -> r'.length = r.length -> (∀ i,i < r.length -> E (r.getD i default) (r'.getD i default)) -> R r'
 fd:∀ {x},x ∈ p -> ∀ {a b},R a -> R b -> AgE E a b x.lhs -> AgE E a b x.rhs
 mv:∀ {x},x ∈ m -> ∀ {a b},R a -> R b -> AgE E a b x.lhs -> R (dz a b (x.lhs ||| x.rhs))
def LE (N:Nat) (p m:List Fd) (l:List Rw) (x y:Int):Prop:=∀ E R,Mdl N p m E R -> (∀ r,r ∈ l -> R r) -> E x y
def LR (N:Nat) (p m:List Fd) (l:List Rw) (r:Rw):Prop:=∀ E R,Mdl N p m E R -> (∀ r,r ∈ l -> R r) -> R r
theorem b5f (N:Nat) (p m:List Fd):Mdl N p m (fun _ _=>True) (fun r=>r.length = N) :=
 ⟨fun _=>trivial,fun _=>trivial,fun _ _=>trivial,fun h=>h,fun h e _=>e.trans h,fun _ _ _ _ _ _ _ _ _=>trivial,fun _ a b _ hb _=>(oi _ _ _).trans hb⟩
theorem a71 {N:Nat} {p m:List Fd} {l:List Rw} (hl:∀ r,r ∈ l -> r.length = N):Mdl N p m (LE N p m l) (LR N p m l) where
 refl x:=fun E R h _=>h.refl x
 symm h:=fun E R k kl=>k.symm (h E R k kl)
 trans h h2:=fun E R k kl=>k.trans (h E R k kl) (h2 E R k kl)
 len h:=h _ _ (b5f N p m) hl
 cong h e h2:=fun E R k kl=>k.cong (h E R k kl) e fun i hi=>h2 i hi E R k kl
 fd hx _ _ ha hb hl:=fun i hi hs E R k kl=>k.fd hx (ha E R k kl) (hb E R k kl) (fun j hj hh=>hl j hj hh E R k kl) i hi hs
 mv hx _ _ ha hb hl:=fun E R k kl=>k.mv hx (ha E R k kl) (hb E R k kl) fun j hj hh=>hl j hj hh E R k kl
structure Ch (N:Nat) (p m:List Fd) (l0 l:List Rw) (σ:Int -> Int):Prop where
 rows:∀ r,r ∈ l -> LR N p m l0 r
 sym:∀ s,LE N p m l0 s (σ s)
 img:∀ r,r ∈ l0 -> r.map σ ∈ l
 fix:∀ r,r ∈ l -> ∀ z,z ∈ r -> σ z = z
 le:∀ s,σ s <= s
section
variable {N:Nat} {p m:List Fd} {l0 l l':List Rw} {σ σ':Int -> Int} {n:Int}
theorem Ch.start:Ch N p m l0 l0 id:=⟨fun r hr E R _ hl=>hl r hr,fun s E R k _=>k.refl s,fun r hr=>by rw [List.map_id];exact hr,fun _ _ _ _=>rfl,fun s=>Int.le_refl s⟩
theorem Ch.congr (h:Ch N p m l0 l σ) (e:∀ r,r ∈ l' <-> r ∈ l):Ch N p m l0 l' σ :=
 ⟨fun r hr=>h.rows r ((e r).1 hr),h.sym,fun r hr=>(e _).2 (h.img r hr),fun r hr=>h.fix r ((e r).1 hr),h.le⟩
def qe (hi lo z:Int):Int:=if z = hi then lo else z
section
variable {f:Int -> Int}
theorem kf {r:Rw} {i:Nat} (h:i < r.length):(r.map f).getD i default = f (r.getD i default):=by
 rw [bkk,bl6,bkj h,bkk,bkj h];rfl
theorem Ch.sub (hl0:∀ r,r ∈ l0 -> r.length = N) (h:Ch N p m l0 l σ) {hi lo:Int} (hE:LE N p m l0 hi lo) (hle:lo <= hi) (hin:∃ r,r ∈ l /\ lo ∈ r):Ch N p m l0 (l.map fun r=>r.map (qe hi lo)) (fun s=>qe hi lo (σ s)):=by
 have hm:=a71 (p:=p) (m:=m) hl0
 have hs:∀ z,LE N p m l0 z (qe hi lo z):=fun z=>by
  unfold qe;split
  · rename_i e;rw [e];exact hE
  exact hm.refl z
 refine ⟨fun r hr=>?_,fun s=>hm.trans (h.sym s) (hs _),fun r hr=>?_,fun r hr z hz=>?_,fun s=>?_⟩
 · obtain ⟨r0,h0,rfl⟩:=blm.1 hr
   exact hm.cong (h.rows r0 h0) bow fun i hi=>by rw [kf hi];exact hs _
 · refine blm.2 ⟨_,h.img r hr, ?_⟩
   rw [List.map_map];rfl
 · obtain ⟨r0,h0,rfl⟩:=blm.1 hr
   obtain ⟨y,hy,rfl⟩:=blm.1 hz;obtain ⟨r1,h1,h2⟩:=hin;have e1:=h.fix r0 h0 y hy;have e2:=h.fix r1 h1 lo h2;by_cases e:y = hi
   · have e3:qe hi lo y = lo:=if_pos e
     show qe hi lo (σ (qe hi lo y)) = qe hi lo y;rw [e3,e2];unfold qe;split <;> rfl
   have e3:qe hi lo y = y:=if_neg e;show qe hi lo (σ (qe hi lo y)) = qe hi lo y;rw [e3,e1,e3]
 have h1:=h.le s
 have h2:qe hi lo (σ s) <= σ s:=by
  unfold qe;split <;> omega
 exact Int.le_trans h2 h1
theorem ar7 {M:Nat -> Nat -> Int} {a b j:Nat}:dy l (eqM M a b j) = (dy l M).map fun r=>r.map (qe (hiI (M a j) (M b j)) (loI (M a j) (M b j))):=by
 unfold dy;rw [List.map_map];refine bn1 fun i _=>?_;show _ = List.map _ (List.map _ _);rw [List.map_map];rfl
theorem ava {M:Nat -> Nat -> Int} {a j:Nat} (ha:a < l.length) (hj:j < (l.getD a default).length):∃ r,r ∈ dy l M /\ M a j ∈ r :=
 a9z.2 ⟨a,j,ha,hj,rfl⟩
theorem Ch.eqMs (hl0:∀ r,r ∈ l0 -> r.length = N) {a b:Nat} (ha:a < l.length) (hb:b < l.length):∀ {js:List Nat} {M:Nat -> Nat -> Int} {σ:Int -> Int},Ch N p m l0 (dy l M) σ -> (∀ j,j ∈ js -> j < (l.getD a default).length /\ j < (l.getD b default).length /\ LE N p m l0 (M a j) (M b j)) ->
 ∃ σ',Ch N p m l0 (dy l (eqMs M a b js)) σ'
 | [],M,σ,h,_=>⟨σ,h⟩
 | j :: js,M,σ,h,hj=>by
  obtain ⟨h1,h2,h3⟩:=hj j bow;have hm:=a71 (p:=p) (m:=m) hl0;have hlo:loI (M a j) (M b j) <= hiI (M a j) (M b j):=by unfold loI hiI;split <;> split <;> omega
  have hE:LE N p m l0 (hiI (M a j) (M b j)) (loI (M a j) (M b j)):=by
   rcases b3j (M a j) (M b j) with e | e <;> rcases aqa (M a j) (M b j) with f | f <;> rw [e,f]
   · exact hm.refl _
   · exact h3
   · exact hm.symm h3
   exact hm.refl _
  have hin:∃ r,r ∈ dy l M /\ loI (M a j) (M b j) ∈ r:=by
   rcases aqa (M a j) (M b j) with f | f <;> rw [f]
   · exact ava ha h1
   exact ava hb h2
  have hq:=h.sub hl0 hE hlo hin;rw [<- ar7] at hq
  have hs:∀ z,LE N p m l0 z (if z = hiI (M a j) (M b j) then loI (M a j) (M b j) else z):=fun z=>by
   split
   · rename_i e;rw [e];exact hE
   exact hm.refl z
  exact Ch.eqMs hl0 ha hb (js:=js) hq fun k hk=>by
   obtain ⟨h4,h5,h6⟩:=hj k (by simp [hk]);exact ⟨h4,h5,hm.trans (hm.symm (hs (M a k))) (hm.trans h6 (hs (M b k)))⟩
theorem amj:dy l (ci l) = l:=by
 refine pz (lr _ _) fun i hi=>?_;rw [lr] at hi;rw [ag4 hi];refine pz bow fun k hk=>?_;simp only [bl7,bn2] at hk;rw [bkk,bl6,bm5 hk];rfl
theorem asd (hl0:∀ r,r ∈ l0 -> r.length = N) {a b:Rw} {s:AS} (h:kj a b s = true):AgE (LE N p m l0) a b s:=fun i hi hs=>by
 rw [of_decide_eq_true h i hi hs];exact (a71 hl0).refl _
theorem dt {α:Type} [Inhabited α] {l:List α} {i:Nat} (h:i < l.length):l.getD i default ∈ l:=by
 rw [bkk,bkj h];exact blh h
theorem b0h {a b:Rw} {s:AS} (hl:a.length = b.length) {z:Int} (hz:z ∈ dz a b s):z ∈ a \/ z ∈ b:=by
 unfold dz at hz;rw [blm] at hz;obtain ⟨i,hi,rfl⟩:=hz;have hi:=bl0.1 hi;split
 · exact .inl (dt bos)
 exact .inr (dt hi)
def bco (l:List Rw) (p m:List Fd) (s:St):Prop:=s.2.2.1 < l.length /\ s.2.2.2 < l.length /\ (s.1 = false -> s.2.1 < p.length) /\ (s.1 = true -> s.2.1 < m.length)
theorem Ch.app (hl0:∀ r,r ∈ l0 -> r.length = n.toNat) (hT:tok n l = true) (hp:p.all (inU n) = true) (h:Ch n.toNat p m l0 l σ) {s:St} (hs:bco l p m s) (he:(dx n l p m s).2.2 = 0) :
 (dx n l p m s).1 = n /\ ∃ σ',Ch n.toNat p m l0 (dx n l p m s).2.1 σ':=by
 obtain ⟨mu,i,a,b⟩:=s;obtain ⟨ha,hb,hf,hv⟩:=hs;obtain ⟨h0,h1,h2,h3⟩:=jc hT;have ha:a < l.length:=ha;have hb:b < l.length:=hb;have hra:=h3 a ha;have hrb:=h3 b hb
 cases mu with
 | false =>
  have hi:i < p.length:=hf rfl;have e0:dx n l p m (false,i,a,b) = fdE n l a b (p.getD i default):=rfl;rw [e0] at he ⊢;by_cases hg:kj (l.getD a default) (l.getD b default) (p.getD i default).lhs = true
  · have e1:fdE n l a b (p.getD i default) = (n,ar (dy l (Go.Hx.eqMs (ci l) a b (al (p.getD i default).rhs))),0):=if_pos hg
    rw [e1];refine ⟨rfl, ?_⟩;have hu:inU n (p.getD i default) = true:=blo.1 hp _ (dt hi);have hm:=a71 (p:=p) (m:=m) hl0;have hR:=hm.fd (dt hi) (h.rows _ (dt ha)) (h.rows _ (dt hb)) (asd hl0 hg)
    obtain ⟨σ',hσ⟩:=Ch.eqMs (p:=p) (m:=m) hl0 ha hb (js:=al (p.getD i default).rhs) (M:=ci l) (σ:=σ) (by rw [amj];exact h) fun j hj=>by
     have h4:=a86 h0 h1 hu hj;have h5:=jg.1 hj;refine ⟨Nat.lt_of_lt_of_eq h4 hra.symm,Nat.lt_of_lt_of_eq h4 hrb.symm,hR j (Nat.lt_of_lt_of_eq h4 hra.symm) (by rw [ja h5.1];exact h5.2)⟩
    exact ⟨σ',hσ.congr fun r=>gj⟩
  have e1:fdE n l a b (p.getD i default) = (0,[],1):=if_neg hg;rw [e1] at he;exact absurd he boz
 | true =>
  have hi:i < m.length:=hv rfl;have e0:dx n l p m (true,i,a,b) = mvE n l a b (m.getD i default):=rfl;rw [e0] at he ⊢;by_cases hg:kj (l.getD a default) (l.getD b default) (m.getD i default).lhs = true
  · have e1:mvE n l a b (m.getD i default) = v8 n l (dz (l.getD a default) (l.getD b default) ((m.getD i default).lhs ||| (m.getD i default).rhs)):=if_pos hg
    rw [e1] at he ⊢;by_cases hbig:256 < (ar (l ++ [dz (l.getD a default) (l.getD b default) ((m.getD i default).lhs ||| (m.getD i default).rhs)])).length
    · have e2:v8 n l (dz (l.getD a default) (l.getD b default) ((m.getD i default).lhs ||| (m.getD i default).rhs)) = (0,[],3):=if_pos hbig
      rw [e2] at he;exact absurd he boz
    have e2:v8 n l (dz (l.getD a default) (l.getD b default) ((m.getD i default).lhs ||| (m.getD i default).rhs)) = (n,ar (l ++ [dz (l.getD a default) (l.getD b default) ((m.getD i default).lhs ||| (m.getD i default).rhs)]),0):=if_neg hbig;rw [e2];refine ⟨rfl,σ, ?_⟩;have hm:=a71 (p:=p) (m:=m) hl0;have hR:=hm.mv (dt hi) (h.rows _ (dt ha)) (h.rows _ (dt hb)) (asd hl0 hg);refine ⟨fun r hr=>?_,h.sym,fun r hr=>gj.2 (bl2 _ (h.img r hr)),fun r hr z hz=>?_,h.le⟩
    · rcases bl4.1 (gj.1 hr) with h4 | h4
      · exact h.rows r h4
      rw [bl3.1 h4];exact hR
    rcases bl4.1 (gj.1 hr) with h4 | h4
    · exact h.fix r h4 z hz
    rw [bl3.1 h4] at hz
    rcases b0h bos hz with h5 | h5
    · exact h.fix _ (dt ha) z h5
    exact h.fix _ (dt hb) z h5
  have e1:mvE n l a b (m.getD i default) = (0,[],1):=if_neg hg;rw [e1] at he;exact absurd he boz
theorem aci {P:Nat -> Nat -> Nat -> Bool} {I L:Nat} (h:fl P I L = none) {i a b:Nat} (hi:i < I) (ha:a < L) (hb:b < L):P i a b = false:=by
 unfold fl at h;rw [bmx] at h;have h1:=h i (bl0.2 hi);rw [bmx] at h1;have h2:=h1 a (bl0.2 ha);rw [Option.map_eq_none_iff,bnx] at h2;exact bkv.2 (h2 b (bl0.2 hb))
theorem at7 (h:eu l p m = none):(∀ i,i < p.length -> ∀ a,a < l.length -> ∀ b,b < l.length -> ey l (p.getD i default) a b = false) /\ ∀ i,i < m.length -> ∀ a,a < l.length -> ∀ b,b < l.length -> f8 l (m.getD i default) a b = false:=by
 unfold eu at h;split at h
 · cases h
 rename_i e;rw [Option.map_eq_none_iff] at h;exact ⟨fun i hi a ha b hb=>aci (P:=fun i a b=>ey l (p.getD i default) a b) e hi ha hb,fun i hi a ha b hb=>aci (P:=fun i a b=>f8 l (m.getD i default) a b) h hi ha hb⟩
theorem za {α:Type} [Inhabited α] {l:List α} {x:α} (h:x ∈ l):∃ i,i < l.length /\ l.getD i default = x:=by
 obtain ⟨i,hi,rfl⟩:=bla h;exact ⟨i,hi,by rw [bkk,bkj hi];rfl⟩
theorem b10 {a b:Rw} {s:AS} (hl:a.length = b.length):dz (a.map f) (b.map f) s = (dz a b s).map f:=by
 unfold dz;rw [List.map_map,bl7];refine bn1 fun i hi=>?_;have hi:=bl0.1 hi;show _ = f (if dq s (i:Int) = true then a.getD i default else b.getD i default);split
 · rw [kf bos]
 rw [kf hi]
theorem Ch.mdl (hT:tok n l = true) (hn:eu l p m = none) (σ:Int -> Int):Mdl n.toNat p m (fun x y=>σ x = σ y) (fun r=>r.length = n.toNat /\ r.map σ ∈ l):=by
 obtain ⟨hF,hM⟩:=at7 hn;refine ⟨fun _=>rfl,fun h=>h.symm,fun h k=>h.trans k,fun h=>h.1,fun {r r'} h e h2=>⟨e.trans h.1, ?_⟩,fun {x} hx {a b} ha hb hl i hi hs=>?_,fun {x} hx {a b} ha hb hl=>⟨(oi _ _ _).trans hb.1, ?_⟩⟩
 · have:r'.map σ = r.map σ:=by
    refine pz (by simp [e]) fun i hi=>?_;rw [bl7] at hi;rw [kf hi,kf bos];exact (h2 i bos).symm
   rw [this];exact h.2
 · obtain ⟨k,hk,rfl⟩:=za hx
   obtain ⟨ia,hia,ea⟩:=za ha.2;obtain ⟨ib,hib,eb⟩:=za hb.2;have h1:=hF k hk ia hia ib hib;unfold ey at h1;rw [ea,eb,a1t (fun j hj hs=>by rw [bl7] at hj;rw [kf hj,kf (by rw [hb.1,<- ha.1];exact hj)];exact hl j hj hs),bmt,Bool.not_eq_false'] at h1;have h2:=of_decide_eq_true h1 i (by rw [bl7];exact hi) hs;rw [kf hi,kf (by rw [hb.1,<- ha.1];exact hi)] at h2;exact h2
 obtain ⟨k,hk,rfl⟩:=za hx;obtain ⟨ia,hia,ea⟩:=za ha.2;obtain ⟨ib,hib,eb⟩:=za hb.2;have h1:=hM k hk ia hia ib hib;unfold f8 at h1;rw [ea,eb,a1t (fun j hj hs=>by rw [bl7] at hj;rw [kf hj,kf (by rw [hb.1,<- ha.1];exact hj)];exact hl j hj hs),bmt,Bool.not_eq_false'] at h1;obtain ⟨r,hr,e⟩:=bll.1 h1;rw [<- b10 (by rw [ha.1,hb.1]),<- of_decide_eq_true e];exact hr
theorem Ch.has (h:Ch n.toNat p m l0 l σ) (hT:tok n l = true) (hl0:∀ r,r ∈ l0 -> r.length = n.toNat) (hn:eu l p m = none):(∀ x y,LE n.toNat p m l0 x y -> σ x = σ y) /\ ∀ r,LR n.toNat p m l0 r -> r.map σ ∈ l:=by
 have hm:=Ch.mdl (p:=p) (m:=m) hT hn σ;have hl:∀ r,r ∈ l0 -> r.length = n.toNat /\ r.map σ ∈ l:=fun r hr=>⟨hl0 r hr,h.img r hr⟩;exact ⟨fun x y e=>e _ _ hm hl,fun r e=>(e _ _ hm hl).2⟩
theorem aey:∀ {r:Rw},(∀ z,z ∈ r -> f z = z) -> r.map f = r
 | [],_=>rfl
 | z :: r,h=>by rw [bm4,h z bow,aey fun y hy=>h y (by simp [hy])]
theorem Ch.mem (h:Ch n.toNat p m l0 l σ) (hT:tok n l = true) (hl0:∀ r,r ∈ l0 -> r.length = n.toNat) (hn:eu l p m = none) {r:Rw}:r ∈ l <-> LR n.toNat p m l0 r /\ r.map σ = r:=by
 constructor
 · intro hr
   exact ⟨h.rows r hr,aey (h.fix r hr)⟩
 rintro ⟨h1,h2⟩;rw [<- h2];exact (h.has hT hl0 hn).2 r h1
end
end
end
section
def bfc:List (List Int) -> List Rw
 | []=>[[]]
 | c :: cs=>c.flatMap fun z=>(bfc cs).map fun r=>z :: r
section
variable {N:Nat} {p m:List Fd} {l0 l:List Rw}
theorem b4a {a b:Rw} {s:AS} {i:Nat} (h:i < b.length):(dz a b s).getD i default = if dq s (i:Int) = true then a.getD i default else b.getD i default:=by
 unfold dz;rw [bkk,bl6,bm5 h];rfl
theorem azk (C:Nat -> List Int) (hd:∀ i j z,z ∈ C i -> z ∈ C j -> i = j):Mdl N p m (fun x y=>x = y \/ ∃ i,x ∈ C i /\ y ∈ C i) (fun r=>r.length = N /\ ∀ i,i < N -> r.getD i default ∈ C i) where
 refl _:=.inl rfl
 symm h:=by
  rcases h with h | ⟨i,h,k⟩
  · exact .inl h.symm
  exact .inr ⟨i,k,h⟩
 trans h h2:=by
  rcases h with h | ⟨i,h,k⟩
  · rw [h];exact h2
  rcases h2 with h2 | ⟨j,h2,k2⟩
  · rw [<- h2];exact .inr ⟨i,h,k⟩
  have:=hd i j _ k h2;subst this;exact .inr ⟨i,h,k2⟩
 len h:=h.1
 cong h e h2:=⟨e.trans h.1,fun i hi=>by
  have h3:=h.2 i hi
  rcases h2 i (by rw [h.1];exact hi) with h4 | ⟨j,h4,h5⟩
  · rw [<- h4];exact h3
  have:=hd i j _ h3 h4;subst this
  exact h5⟩
 fd _ a b ha hb _:=fun i hi _=>.inr ⟨i,ha.2 i (by rw [<- ha.1];exact hi),hb.2 i (by rw [<- ha.1];exact hi)⟩
 mv _ a b ha hb _:=⟨(oi _ _ _).trans hb.1,fun i hi=>by
  rw [b4a (by rw [hb.1];exact hi)];split
  · exact ha.2 i hi
  exact hb.2 i hi⟩
def bg8 (N:Nat) (p m:List Fd) (l0:List Rw):Prop:=∀ l,oj l -> (∀ r,r ∈ l -> LR N p m l0 r) -> l.length <= 256
end
section
variable {p m:List Fd} {l0 l:List Rw} {n:Int} {σ:Int -> Int}
theorem aof {s:St} (h:xf l p m s):bco l p m s:=by
 obtain ⟨h1,h2,h3⟩:=h;refine ⟨h1,h2,fun e=>?_,fun e=>?_⟩
 · rcases h3 with ⟨_,h,_⟩ | ⟨h,_⟩
   · exact h
   rw [e] at h;cases h
 rcases h3 with ⟨h,_⟩ | ⟨_,h,_⟩
 · rw [e] at h;cases h
 exact h
theorem Ch.code (h0:tok n l0 = true) (hS:bg8 n.toNat p m l0) (hp:p.all (inU n) = true) (hT:tok n l = true) (h:Ch n.toNat p m l0 l σ) {s:St} (hs:xf l p m s):(dx n l p m s).2.2 = 0:=by
 rcases ajo hT hp hs with e | ⟨l',e,_⟩
 · obtain ⟨mu,i,a,b⟩:=s
   obtain ⟨ha,hb,hs | hs⟩:=hs
   · obtain ⟨h1,h2,h3⟩:=hs
     cases h1;have h4:dx n l p m (false,i,a,b) = fdE n l a b (p.getD i default):=rfl;have hg:=(ar6 hT (blo.1 hp _ (dt h2)) ha hb h3).1;have hg:fdE n l a b (p.getD i default) = (n,fdL l a b (p.getD i default),0):=hg;rw [h4,hg] at e ⊢
   obtain ⟨h1,h2,h3⟩:=hs;cases h1;have h4:dx n l p m (true,i,a,b) = mvE n l a b (m.getD i default):=rfl;have h5:f8 l (m.getD i default) a b = true:=h3;unfold f8 at h5;rw [bkt] at h5;have h6:mvE n l a b (m.getD i default) = v8 n l (dz (l.getD a default) (l.getD b default) ((m.getD i default).lhs ||| (m.getD i default).rhs)):=if_pos h5.1;have hl0:∀ r,r ∈ l0 -> r.length = n.toNat:=fun r hr=>(y9 h0 r hr).1
   have h7:=hS (ar (l ++ [dz (l.getD a default) (l.getD b default) ((m.getD i default).lhs ||| (m.getD i default).rhs)])) (ic _) fun r hr=>by
    rcases bl4.1 (gj.1 hr) with h8 | h8
    · exact h.rows r h8
    rw [bl3.1 h8];exact (a71 hl0).mv (dt h2) (h.rows _ (dt ha)) (h.rows _ (dt hb)) (asd hl0 h5.1)
   rw [h4,h6];unfold v8;rw [if_neg bos]
 rw [e]
def TrZ (n:Int) (p m:List Fd) (lend:List Rw):List Rw -> List St -> Prop
 | l,[]=>l = lend
 | l,s :: r=>tok n l = true /\ xf l p m s /\ ∃ l',dx n l p m s = (n,l',0) /\ ¬ l' = l /\ TrZ n p m lend l' r
end
def stC (n:Int) (ps:List AS) (c:Nat):List Int:=if c < n.toNat then (List.range ps.length).map fun i=>stV n i (ps.getD i default) c else []
section
variable {n:Int} {ps:List AS} {p m:List Fd}
theorem b9q (h0:0 <= n) {i c:Nat} {q:AS} (hc:c < n.toNat):stV n i q c % n = (c:Int):=by
 unfold stV;split
 · exact Int.emod_eq_of_lt bos bos
 have e:n + (i:Int) * n + (c:Int) = (c:Int) + n * (1 + (i:Int)):=by rw [Int.mul_add,Int.mul_one,Int.mul_comm (i:Int) n];omega
 rw [e,Int.add_mul_emod_self_left];exact Int.emod_eq_of_lt bos bos
theorem adp (h0:0 <= n) {c:Nat} {z:Int} (h:z ∈ stC n ps c):c < n.toNat /\ z % n = (c:Int):=by
 unfold stC at h;split at h
 · rename_i hc
   obtain ⟨i,_,rfl⟩:=blm.1 h;exact ⟨hc,b9q h0 hc⟩
 simp at h
theorem b5i (h0:0 <= n):∀ i j z,z ∈ stC n ps i -> z ∈ stC n ps j -> i = j:=fun i j z h k=>by
 have h1:=(adp h0 h).2;have h2:=(adp h0 k).2;omega
theorem acs {r:Rw} (hr:r ∈ bm n ps):r.length = n.toNat /\ ∀ i,i < n.toNat -> r.getD i default ∈ stC n ps i:=by
 unfold bm at hr;obtain ⟨k,hk,rfl⟩:=blm.1 hr;refine ⟨af1 _ _ _,fun i hi=>?_⟩;rw [aig hi];unfold stC;rw [if_pos hi];exact blm.2 ⟨k,hk,rfl⟩
end
end
section
section
variable {n:Int} {ps:List AS} {p m:List Fd} {l l0:List Rw} {σ:Int -> Int}
theorem bac {N:Nat} {l l':List Rw} (h:∀ r,r ∈ l <-> r ∈ l') {r:Rw}:LR N p m l r <-> LR N p m l' r :=
 ⟨fun k E R hm hl=>k E R hm fun r hr=>hl r ((h r).1 hr),fun k E R hm hl=>k E R hm fun r hr=>hl r ((h r).2 hr)⟩
theorem aul (h0:0 <= n) {c:Nat} {z:Int} (h:z ∈ stC n ps c):z = (c:Int) \/ n <= z:=by
 unfold stC at h;split at h
 · obtain ⟨i,_,rfl⟩:=blm.1 h
   unfold stV;split
   · exact .inl rfl
   right;have:=Int.mul_nonneg (show (0:Int) <= (i:Int) by omega) h0;omega
 simp at h
theorem Ch.first (h0:0 <= n) (h:Ch n.toNat p m (ar (bm n ps)) l σ):(dc n).map σ = dc n:=by
 refine aey fun z hz=>?_;unfold dc at hz;obtain ⟨c,hc,rfl⟩:=blm.1 hz;have hc:=bl0.1 hc;have h1:=h.sym (c:Int) _ _ (azk (stC n ps) (b5i h0)) fun r hr=>acs (gj.1 hr)
 rcases h1 with h1 | ⟨i,h1,h2⟩
 · exact h1.symm
 have h3:=(adp h0 h1).2;have h4:=Int.emod_eq_of_lt (a:=(c:Int)) (b:=n) bos bos;have h5:i = c:=by omega
 subst h5;have h6:=h.le (i:Int)
 rcases aul h0 h2 with h7 | h7
 · exact h7
 omega
theorem a5q {r:Rw}:(l.any fun x=>decide (x = r)) = decide (r ∈ l):=by
 rw [bme,bll,decide_eq_true_iff];constructor
 · rintro ⟨x,hx,e⟩
   rw [<- of_decide_eq_true e];exact hx
 intro h;exact ⟨r,h,decide_eq_true rfl⟩
def swI (n z:Int):Int:=if n <= z /\ z < 2 * n then z + n else if 2 * n <= z /\ z < 3 * n then z - n else z
abbrev bkb (n:Int) (x:Fd):Fd:=⟨x.lhs,aa n &&& ~~~(x.lhs ||| x.rhs)⟩
end
end
section
section
variable {n:Int} {p m:List Fd} {l0 l:List Rw} {σ:Int -> Int}
theorem b1k (hT:tok n l = true) (hp:p.all (inU n) = true) (hm:m = []) {s:St} (hs:xf l p m s):(dx n l p m s).2.2 = 0:=by
 obtain ⟨mu,i,a,b⟩:=s;obtain ⟨ha,hb,hs | hs⟩:=hs
 · obtain ⟨h1,h2,h3⟩:=hs
   cases h1;have h4:dx n l p m (false,i,a,b) = fdE n l a b (p.getD i default):=rfl;have hg:fdE n l a b (p.getD i default) = (n,fdL l a b (p.getD i default),0):=(ar6 hT (blo.1 hp _ (dt h2)) ha hb h3).1;rw [h4,hg]
 obtain ⟨_,h2,_⟩:=hs;subst hm;exact absurd h2 (bkp _)
theorem au9 (hl0:∀ r,r ∈ l0 -> r.length = n.toNat) (hp:p.all (inU n) = true) (Z:List Int):∀ (F:Nat) (l:List Rw) (acc:List St) (σ:Int -> Int),tok n l = true -> Ch n.toNat p m l0 l σ -> Cov Z l -> muC Z l < F ->
 (ig F n l p m acc = ([],(0,[]),3) /\ ¬ m = []) \/ ∃ sts lend σ',ig F n l p m acc = (acc ++ sts,(n,lend),0) /\ Ch n.toNat p m l0 lend σ' /\ tok n lend = true /\ eu lend p m = none /\ TrZ n p m lend l sts:=by
 intro F
 induction F with
 | zero=>intro _ _ _ _ _ _ h;exact absurd h (bkp _)
 | succ F ih =>
  intro l acc σ hT hC hZ hF
  cases hn:eu l p m with
  | none=>exact .inr ⟨[],l,σ,by rw [acl bos hn,blq],hC,hT,hn,rfl⟩
  | some s =>
   have hs:=a7e hn
   rcases ajo hT hp hs with e | ⟨l',e,hT',h3⟩
   · left
     refine ⟨abo bos hn e boz,fun hm=>?_⟩;have:=b1k hT hp hm hs;rw [e] at this;exact absurd this boz
   obtain ⟨h4,h5⟩:=h3 Z hZ;obtain ⟨_,σ',hC'⟩:=Ch.app hl0 hT hp hC (aof hs) (by rw [e]);rw [e] at hC'
   rcases ih l' (acc ++ [s]) σ' hT' hC' h4 bos with ⟨q,q0⟩ | ⟨sts,lend,σ2,q1,q2,q3,q4,q5⟩
   · left
     exact ⟨by rw [a10 bos hn e,Nat.add_sub_cancel,q],q0⟩
   right;refine ⟨s :: sts,lend,σ2, ?_,q2,q3,q4,hT,hs,l',e,fun e=>?_,q5⟩
   · rw [a10 bos hn e,Nat.add_sub_cancel,q1,blw]
     rfl
   subst e;omega
theorem aui (hT:tok n l = true) (hb:c8 n p m = 0):(j8 FU n l p m = ([],(0,[]),3) /\ ¬ m = []) \/ ∃ sts lend σ,j8 FU n l p m = (sts,(n,lend),0) /\ Ch n.toNat p m l lend σ /\ tok n lend = true /\ eu lend p m = none /\ TrZ n p m lend l sts:=by
 have hck:ckE n l p m = 0:=(if_pos hT).trans hb;rw [up hck]
 rcases au9 (fun r hr=>(y9 hT r hr).1) (kb hb).2.2.2.1 l.flatten FU l [] id hT Ch.start (alf l) (ak5 hT) with h | ⟨sts,lend,σ',q1,q⟩
 · exact .inl h
 exact .inr ⟨sts,lend,σ',by rw [q1,bod],q⟩
def trL (n:Int) (p m:List Fd):List Rw -> List St -> List (List Rw)
 | l,[]=>[l]
 | l,s :: r=>l :: trL n p m (dx n l p m s).2.1 r
theorem a1s:∀ {sts:List St} {l:List Rw},(trL n p m l sts).length = sts.length + 1
 | [],_=>rfl
 | s :: r,l=>by unfold trL;rw [blf,a1s,blf]
theorem ahs:∀ {sts:List St} {l lend:List Rw},TrZ n p m lend l sts -> lend ∈ trL n p m l sts
 | [],l,lend,h=>by
  have h:l = lend:=h;subst h;simp [trL]
 | s :: r,l,lend,h=>by
  obtain ⟨_,_,l',e,_,h⟩:=h;unfold trL;rw [e];exact bm1 _ (ahs h)
theorem au8 (hl0:∀ r,r ∈ l0 -> r.length = n.toNat) (hp:p.all (inU n) = true):∀ {sts:List St} {l lend:List Rw} {σ:Int -> Int},TrZ n p m lend l sts -> tok n lend = true -> Ch n.toNat p m l0 l σ -> ∀ t,t ∈ trL n p m l sts -> ∃ σ,Ch n.toNat p m l0 t σ
 | [],l,lend,σ,h,_,hC,t,ht=>by
  rw [bl3.1 (show t ∈ [l] from ht)];exact ⟨σ,hC⟩
 | s :: r,l,lend,σ,h,hTe,hC,t,ht=>by
  obtain ⟨hT,hs,l',e,_,h⟩:=h;unfold trL at ht;rw [e] at ht
  rcases bkx.1 ht with rfl | ht
  · exact ⟨σ,hC⟩
  obtain ⟨_,σ',hC'⟩:=Ch.app hl0 hT hp hC (aof hs) (by rw [e]);rw [e] at hC';exact au8 hl0 hp h hTe hC' t ht
end
section
variable {n:Int} {ps:List AS} {p m:List Fd}
theorem abg (h0:0 <= n) (h16:n <= 16) (hk:ps.length <= 64):tok n (ar (bm n ps)) = true:=by
 refine a5u h0 h16 ?_ fun r hr=>?_
 · have:=zw (bm n ps)
   rw [pj] at this;omega
 obtain ⟨h1,h2⟩:=acs hr;refine ⟨h1,fun z hz=>?_⟩;obtain ⟨i,hi,rfl⟩:=za hz
 rcases aul h0 (h2 i bos) with h3 | h3 <;> omega
theorem afk (hk:ps.length <= 64) (hb:c8 n p m = 0) :
 (j8 FU n (ar (bm n ps)) p m = ([],(0,[]),3) /\ ¬ m = []) \/ ∃ sts lend,j8 FU n (ar (bm n ps)) p m = (sts,(n,lend),0) /\ (dc n ∈ lend <-> LR n.toNat p m (bm n ps) (dc n)) /\
  TrZ n p m lend (ar (bm n ps)) sts /\ tok n lend = true /\ ((∃ t,t ∈ trL n p m (ar (bm n ps)) sts /\ dc n ∈ t) <-> dc n ∈ lend):=by
 obtain ⟨h0,h16,_,hp,_⟩:=kb hb;have hT:=abg h0 h16 hk;have hl0:∀ r,r ∈ ar (bm n ps) -> r.length = n.toNat:=fun r hr=>(y9 hT r hr).1
 rcases aui hT hb with h | ⟨sts,lend,σ,h1,h2,h3,h4,h5⟩
 · exact .inl h
 right
 have hf:dc n ∈ lend <-> LR n.toNat p m (ar (bm n ps)) (dc n):=by
  rw [h2.mem h3 hl0 h4];exact ⟨fun h=>h.1,fun h=>⟨h,h2.first h0⟩⟩
 refine ⟨sts,lend,h1,by rw [hf,bac (l':=bm n ps) fun r=>gj],h5,h3, ?_⟩;constructor
 · rintro ⟨t,ht,hft⟩
   obtain ⟨σ',hC⟩:=au8 hl0 hp h5 h3 Ch.start t ht;exact hf.2 (hC.rows _ hft)
 intro h;exact ⟨lend,ahs h5,h⟩
end
end
section
theorem ag5 {l:List Fd} {p:AS} (h:bsz p <= 12):dm l p = true <-> ∃ x,sub x p /\ n4 l p x = true:=by
 constructor
 · intro hv
   obtain ⟨x,_,h1,h2⟩:=afr hv;exact ⟨x,h1,h2⟩
 rintro ⟨x,h1,h2⟩;unfold dm a6o;rw [List.find?_isSome];refine ⟨x, ?_,h2⟩;unfold ax;rw [if_neg bos];exact ta.2 h1
section
variable {n:Int} {l:List Fd}
theorem apf (h:bj n l = 0):∀ f ∈ l,sub f.lhs (aa n) /\ sub f.rhs (aa n):=fun f hf=>by
 obtain ⟨h0,h1,_,h3⟩:=gc h;exact (pk h0 h1).1 (blo.1 h3 f hf)
theorem amw (h:bj n l = 0):sy l (aa n):=fun f hf _=>(apf h f hf).2
theorem b0z (h:bj n l = 0) {x:AS} (hx:sub x (aa n)):sub (clo l x) (aa n):=a00 (amw h) hx
end
theorem tn {α β:Type} [Inhabited α] {f:α -> β} {l:List α} {i:Nat} (h:i < l.length):(l.take (i + 1)).map f = (l.take i).map f ++ [f (l.getD i default)]:=by
 rw [ay h,bmw];rfl
structure Dps where
 n:BitVec 8
 l:List Dp
deriving Inhabited
def Dps.num (d:Dps):Int:=((d.n.toNat % 7:Nat):Int)
def Dps.fds (d:Dps):List Fd:=d.l.map (Dp.fd d.num)
def Dps.c (d:Dps):Nat -> PV
 | 0=>.raw (.int .u8 (d.n.toNat:Int))
 | 1=>dpl d.l
 | _=>.any
abbrev Dps.pc (d:Dps):PC:=.agg [d.c 0,d.c 1]
end
section
def noA (s:AS) (a:Nat):AS:=s &&& ~~~((1:AS) <<< a)
theorem ah6 (s:AS) (a:Nat) {b:Int} (h:b.toNat = a):aw .andNot .u32 (asI s) (IntKind.wrap .u32 (1 * 2 ^ (min b.toNat 32))) = asI (noA s a):=by
 rw [h];exact a7c s a
def avd (n:Int) (l:List Fd) (s:AS) (a:Nat):AS:=if ld n l (noA s a) = true then noA s a else s
def ph (n:Int) (l:List Fd) (s:AS) (k:Nat):AS:=(List.range k).foldl (fun s j=>avd n l s (n.toNat - 1 - j)) s
theorem abf (n:Int) (l:List Fd) (s:AS) (k:Nat):ph n l s (k + 1) = avd n l (ph n l s k) (n.toNat - 1 - k):=by
 unfold ph;rw [bmg,bm0];rfl
section
variable {l:List Fd} {n:Int} {s:AS}
theorem ap8 {k:Nat} (h:ld n l (noA (ph n l s k) (n.toNat - 1 - k)) = true):ph n l s (k + 1) = noA (ph n l s k) (n.toNat - 1 - k):=by
 rw [abf];exact if_pos h
theorem aoo {k:Nat} (h:ld n l (noA (ph n l s k) (n.toNat - 1 - k)) = false):ph n l s (k + 1) = ph n l s k:=by
 rw [abf];exact if_neg (by rw [h];decide)
def rkE (n:Int) (l:List Fd) (s:AS):Int:=if bj n l = 0 then (if ld n l s = true then 0 else 1) else bj n l
def rkS (n:Int) (l:List Fd) (s:AS):AS:=if rkE n l s = 0 then ph n l s n.toNat else 0
theorem bhj (h:¬ bj n l = 0):rkS n l s = 0 /\ rkE n l s = bj n l:=by
 have e:rkE n l s = bj n l:=if_neg h;exact ⟨if_neg (by rw [e];exact h),e⟩
theorem bhe (h:bj n l = 0) (h2:ld n l s = false):rkS n l s = 0 /\ rkE n l s = 1:=by
 have e:rkE n l s = 1:=by unfold rkE;rw [if_pos h,if_neg (by rw [h2];decide)]
 exact ⟨if_neg (by rw [e];decide),e⟩
theorem bdx (h:bj n l = 0) (h2:ld n l s = true):rkS n l s = ph n l s n.toNat /\ rkE n l s = 0:=by
 have e:rkE n l s = 0:=by unfold rkE;rw [if_pos h,if_pos h2]
 exact ⟨if_pos e,e⟩
def bfq (n:Int) (l:List Fd) (s:AS):Bool:=ld n l s && (List.range n.toNat).all fun a=>!(s.getLsbD a && ld n l (noA s a))
def bgy (n:Int) (l:List Fd) (i:Nat):List AS:=((List.range i).map (BitVec.ofNat 32)).filter (bfq n l)
def b2k (n:Int) (l:List Fd):List AS:=if bj n l = 0 then ord (bgy n l (2 ^ n.toNat)) else []
theorem bao (h0:0 <= n) (h1:n <= 16):asI (aa n) + 1 = (2 ^ n.toNat:Nat) /\ 2 ^ n.toNat <= 65536:=by
 have h2:2 ^ n.toNat <= 2 ^ 16:=bn7 bos bos;have h3:0 < 2 ^ n.toNat:=bof _;unfold aa asI;rw [a8z (Nat.min_le_right _ _),bmn bos];omega
end
end
section
open Go.Proofs
theorem bba:goodFn Tryz.prog 73:=wgx Tryz.func73
theorem b49 (n:Int) (l:List Fd) (s:AS):a7 Tryz.prog 73 [pI n,pP (fdl l),pA s] (ae [pA (rkS n l s),pI (rkE n l s)]):=by
 refine hpx (nt:=38) Tryz.func73 ?_;refine ce ?_;refine qcx uz (zr n l) ?_;refine w_7 ?_;refine hcn (fun h0=>?_) (fun h0=>?_)
 · refine w_7 ?_;refine ⟨.inr rfl, ?_⟩;have he:=bhj (s:=s) h0;exact f9 rfl rfl (⟨cci (congrArg asI he.1.symm),cci he.2.symm,trivial⟩)
 refine w_7 ?_;refine qcx ab7 (ah0 n l s) ?_;refine w_2 ?_;refine hcv (fun h1=>?_) (fun h1=>?_)
 · refine w_6 ?_;refine ⟨.inr rfl, ?_⟩;have he:=bhe h0 bot;exact f9 rfl rfl (⟨cci (congrArg asI he.1.symm),cci he.2.symm,trivial⟩)
 refine w_3 ?_;have hv:=gc h0;refine w_6 ?_;refine a6 (ι:=Nat) ⟨[(0,some _),(1,some _)],[]⟩ ⟨⟨c9,c9,trivial⟩,trivial⟩ (fun k=>⟨[(2,some (vA (ph n l s k))),(9,some (vI (n - 1 - (k:Int))))],[]⟩) (fun k=>k <= n.toNat) (fun k=>n.toNat - k) (0) (bkl _) ⟨⟨zy,⟨_,rfl,(coi bos)⟩,trivial⟩,trivial⟩ ?_;rintro k hk;refine w_6 ?_;refine hcd (fun h2=>?_) (fun h2=>?_)
 ·
  refine x9 ?_;refine rc rfl rfl rfl rfl rfl rfl ab7 (ah0 n l (noA (ph n l s k) (n.toNat - 1 - k))) (⟨CoC.refl _,CoC.refl _,cci (ah6 _ _ bos),trivial⟩) rfl rfl ?_;refine aq ?_;refine hcb (fun h3=>?_) (fun h3=>?_)
  ·
   refine w_9 ?_
   first | (refine ⟨k + 1, ?_, ?_, ?_⟩
            · show k + 1 <= _;omega
            · first | omega | (dsimp only;omega)
            exact ⟨⟨⟨_,rfl,(bw ((ah6 _ (n.toNat - 1 - k) bos).trans (congrArg asI (ap8 bot).symm)))⟩,⟨_,rfl,(coi bos)⟩,c9,c9,trivial⟩,trivial⟩)
         | (refine ⟨k + 1, ?_, ?_, ?_⟩
            · show k + 1 <= _;omega
            · first | omega | (dsimp only;omega)
            exact ⟨⟨⟨_,rfl,(bw (by rw [aoo bot]))⟩,⟨_,rfl,(coi bos)⟩,c9,c9,trivial⟩,trivial⟩)
  refine w_6 ?_
  first | (refine ⟨k + 1, ?_, ?_, ?_⟩
           · show k + 1 <= _;omega
           · first | omega | (dsimp only;omega)
           exact ⟨⟨⟨_,rfl,(bw ((ah6 _ (n.toNat - 1 - k) bos).trans (congrArg asI (ap8 bot).symm)))⟩,⟨_,rfl,(coi bos)⟩,c9,c9,trivial⟩,trivial⟩)
        | (refine ⟨k + 1, ?_, ?_, ?_⟩
           · show k + 1 <= _;omega
           · first | omega | (dsimp only;omega)
           exact ⟨⟨⟨_,rfl,(bw (by rw [aoo bot]))⟩,⟨_,rfl,(coi bos)⟩,c9,c9,trivial⟩,trivial⟩)
 refine w_8 ?_;refine ⟨.inr rfl, ?_⟩;have he:=bdx h0 bot;obtain rfl:k = n.toNat:=by omega
 exact f9 rfl rfl (⟨cci (congrArg asI he.1.symm),cci he.2.symm,trivial⟩)
end
section
def bC:Bool -> Nat -> PV:=fun b _=>.raw (.bool b)
def b2f (n:Int) (l:List Fd) (k:Nat):Bool:=decide (clo l (BitVec.ofNat 32 k) = aa n)
def bhi (n:Int) (l:List Fd) (i:Nat):List Bool:=(List.range (2 ^ n.toNat)).map fun k=>decide (k < i) && b2f n l k
def bkf (n:Int) (l:List Fd):List Bool:=bhi n l (2 ^ n.toNat)
end
section
section
variable {n:Int} {l:List Fd}
def okA (n:Int) (l:List Fd) (i a:Nat):Bool:=b2f n l i && (List.range a).all fun b=>!(i.testBit b && b2f n l (i ^^^ 2 ^ b))
section
variable {i a:Nat} (hv:bj n l = 0) (hi:i < 2 ^ n.toNat) (ha:(a:Int) < n) (hx:i ^^^ 2 ^ a < 2 ^ n.toNat)
include hv hi ha hx
end
end
end
section
def w6 (s:AS):Nat -> AS -> List AS
 | 0,_=>[]
 | n + 1,x=>if x = 0 then [] else x :: w6 s n ((x - 1) &&& s)
def f7 (s:AS):List AS:=0 :: w6 s (s.toNat + 1) s
theorem sub_zero (s:AS):sub 0 s:=ai.2 fun i hi h=>by simp at h
section
variable {s:AS}
theorem af7:∀ (n:Nat) (x:AS),sub x s -> x.toNat < n -> ∀ z,z ∈ w6 s n x <-> sub z s /\ z ≠ 0 /\ z.toNat <= x.toNat
 | 0,x,_,h,z=>absurd h (bkp _)
 | n + 1,x,hx,h,z=>by
  unfold w6;by_cases h0:x = 0
  · rw [if_pos h0]
    subst h0;constructor
    · intro h;cases h
    rintro ⟨_,h1,h2⟩;exact absurd (bln (Nat.le_antisymm h2 (bkl _))) h1
  rw [if_neg h0,bkx,af7 n _ a3r (by have:=py (s:=s) h0;omega)];constructor
  · rintro (rfl | ⟨h1,h2,h3⟩)
    · exact ⟨hx,h0,bko _⟩
    have:=py (s:=s) h0;exact ⟨h1,h2,by omega⟩
  rintro ⟨h1,h2,h3⟩;by_cases he:z = x
  · exact .inl he
  have hne:z.toNat ≠ x.toNat:=fun e=>he (bln e);exact .inr ⟨h1,h2,aae hx h1 bos⟩
theorem x3 {z:AS}:z ∈ f7 s <-> sub z s:=by
 unfold f7;rw [bkx,af7 _ _ (sub_self s) (Nat.lt_succ_self _)];constructor
 · rintro (rfl | h)
   · exact sub_zero s
   exact h.1
 intro h;by_cases h0:z = 0
 · exact .inl h0
 exact .inr ⟨h,h0,a0k h⟩
def TsI (s:AS) (x:Nat × List AS × AS):Prop:=x.2.1 ++ w6 s x.1 x.2.2 = f7 s /\ x.2.2.toNat < x.1 /\ x.2.1.length + x.1 = s.toNat + 2
theorem b95 (s:AS):TsI s (s.toNat + 1,[0],s):=⟨rfl,Nat.lt_succ_self _,by dsimp only;rw [bm7];omega⟩
theorem b9o {x:Nat × List AS × AS} (h:TsI s x) (h0:x.2.2 ≠ 0):TsI s (x.1 - 1,x.2.1 ++ [x.2.2],(x.2.2 - 1) &&& s):=by
 obtain ⟨h1,h2,h3⟩:=h;obtain ⟨n,hn⟩:∃ n,x.1 = n + 1:=⟨x.1 - 1,by omega⟩;have hl:=py (s:=s) h0;refine ⟨?_,by dsimp only;omega,by dsimp only;rw [bkq,bm7];omega⟩;rw [<- h1,hn];show (x.2.1 ++ [x.2.2]) ++ w6 s n _ = _;rw [blw]
 conv=>rhs;unfold w6
 rw [if_neg h0];rfl
theorem bdd {x:Nat × List AS × AS} (h:TsI s x) (h0:x.2.2 = 0):x.2.1 = f7 s:=by
 obtain ⟨h1,h2,h3⟩:=h;obtain ⟨n,hn⟩:∃ n,x.1 = n + 1:=⟨x.1 - 1,by omega⟩;rw [<- h1,hn];unfold w6;rw [if_pos h0,blq]
theorem afe (s:AS):(f7 s).length <= 4294967297:=by
 have:∀ n x,(w6 s n x).length <= n:=by
  intro n
  induction n with
  | zero=>intro x;exact bko _
  | succ n ih =>
   intro x;unfold w6;split
   · simp
   rw [blf];have:=ih ((x - 1) &&& s);omega
 have h1:=this (s.toNat + 1) s;have:=s.isLt;unfold f7;rw [blf];omega
variable {r:AS}
theorem baq (h:r ≠ 0):r &&& (-r) = (1:AS) <<< ip r:=by
 obtain ⟨h1,h2,h3,h4⟩:=uw h
 have e:-r = ~~~(r - 1):=by
  apply bln;have h0:r.toNat ≠ 0:=fun e=>h (bln e);have:=r.isLt;rw [BitVec.toNat_neg,BitVec.toNat_not,a3p h];omega
 rw [e];apply bm6;intro i hi;have h5:=congrArg (fun z:AS=>z.getLsbD i) h4;simp only [bkz,bmq,decide_eq_true hi,bmt] at h5;have h6:((1:AS) <<< ip r).getLsbD i = decide (i = ip r):=vj _ i hi;rw [bkz,bmq,decide_eq_true hi,bmt,h6];rw [h6] at h5;by_cases hl:i = ip r
 · subst hl
   rw [h2] at h5 ⊢;simpa using h5
 rw [decide_eq_false hl] at h5 ⊢;cases hr:r.getLsbD i <;> rw [hr] at h5 <;> simpa using h5
theorem bgi (r:AS) (h:r ≠ 0) {a:Int} (ha:a = IntKind.wrap .u32 (0 - asI r)):aw .and .u32 (asI r) a = asI ((1:AS) <<< ip r):=by
 have e:a = asI (-r):=by
  rw [ha];have h0:r.toNat ≠ 0:=fun e=>h (bln e);have:=r.isLt;unfold asI;rw [BitVec.toNat_neg];simp only [IntKind.wrap,IntKind.signed,IntKind.bits];simp;omega
 rw [e,fj,baq h]
def lc (l:List Fd) (p s:AS):Bool:=decide (sub p (clo l s))
variable {l:List Fd} {p:AS}
theorem qr:decide (aw .and .u32 (asI (clo l s)) (asI p) = asI p) = lc l p s:=by
 rw [fj,abw];unfold lc;refine decide_eq_decide.2 ⟨fun e=>?_,fun e=>?_⟩
 · rw [<- e];exact sq
 refine ec a6f (a4w e (io p))
def zi (l:List Fd) (p x:AS):Bool:=(List.range 32).all fun a=>!(x.getLsbD a && lc l p (noA x a))
variable {x:AS}
theorem bas {a:Nat} (ha:a < 32) (h:x.getLsbD a = true) (h2:lc l p (noA x a) = true):zi l p x = false:=by
 unfold zi;rw [List.all_eq_false];exact ⟨a,bl0.2 ha,by rw [h,h2];decide⟩
theorem bbp (h2:∀ a,a < 32 -> x.getLsbD a = true -> lc l p (noA x a) = false):zi l p x = true:=by
 unfold zi;rw [blo];intro a ha
 cases hx:x.getLsbD a with
 | false=>rfl
 | true=>rw [h2 a (bl0.1 ha) hx];rfl
def adc (l:List Fd) (p x r:AS):Prop:=sub r x /\ ∀ a,a < 32 -> x.getLsbD a = true -> r.getLsbD a = true \/ lc l p (noA x a) = false
theorem b0g (l:List Fd) (p x:AS):adc l p x x:=⟨io x,fun a _ h=>.inl h⟩
theorem b66 (h:adc l p x r) (h0:r ≠ 0):ip r < 32 /\ x.getLsbD (ip r) = true:=by
 obtain ⟨h1,h2,_,_⟩:=uw h0;exact ⟨h1,ai.1 h.1 _ h1 h2⟩
theorem b28 (h:adc l p x r) (h0:r ≠ 0) (hf:lc l p (noA x (ip r)) = false):adc l p x (r &&& (r - 1)):=by
 obtain ⟨h1,h2,h3,h4⟩:=uw h0;rw [h4];refine ⟨gk sq h.1,fun a ha hx=>?_⟩
 rcases h.2 a ha hx with h5 | h5
 · by_cases hl:a = ip r
   · subst hl;exact .inr hf
   refine .inl ?_;have h6:((1:AS) <<< ip r).getLsbD a = decide (a = ip r):=vj _ a ha;rw [bkz,bmq,decide_eq_true ha,bmt,h5,h6,decide_eq_false hl];rfl
 exact .inr h5
theorem b7v (h:adc l p x r) (h0:r = 0):zi l p x = true:=bbp fun a ha hx=>by
 rcases h.2 a ha hx with h5 | h5
 · subst h0;simp at h5
 exact h5
theorem bc9 (h:r ≠ 0):(r &&& (r - 1)).toNat < r.toNat:=by
 have h1:=a3p h;have h0:r.toNat ≠ 0:=fun e=>h (bln e);rw [bnk,h1];have:(r.toNat &&& (r.toNat - 1)) <= r.toNat - 1:=bnl;omega
def yo (l:List Fd) (p x:AS):Bool:=lc l p x && zi l p x
def nv (l:List Fd) (p:AS):AS:=orL ((f7 p).filter (yo l p))
theorem a1d {k:Nat}:∀ {ps:List AS} {s:AS},(ps.foldl (· ||| ·) s).getLsbD k = (s.getLsbD k || ps.any fun x=>x.getLsbD k)
 | [],s=>by simp
 | x :: ps,s=>by
  rw [bmr,a1d,bm9,List.any_cons,Bool.or_assoc]
theorem b20 {a b:List AS} (h:∀ z,z ∈ a <-> z ∈ b):orL a = orL b:=by
 apply bm6;intro i hi;unfold orL;rw [a1d,a1d];congr 1;rw [bme,bll,bll];exact ⟨fun ⟨x,h1,h2⟩=>⟨x,(h x).1 h1,h2⟩,fun ⟨x,h1,h2⟩=>⟨x,(h x).2 h1,h2⟩⟩
def tw (l:List Fd) (p:AS) (i:Nat):AS:=orL (((f7 p).take i).filter (yo l p))
theorem ano (a:List AS) (x:AS):orL (a ++ [x]) = orL a ||| x:=by unfold orL;rw [bm0];rfl
theorem aaf {i:Nat} (hi:i < (f7 p).length) (h:yo l p ((f7 p).getD i default) = true):tw l p (i + 1) = tw l p i ||| (f7 p).getD i default:=by
 unfold tw;rw [ay hi,blz];simp only [blx,h,if_true,bmi];exact ano _ _
theorem va {i:Nat} (hi:i < (f7 p).length) (h:yo l p ((f7 p).getD i default) = false):tw l p (i + 1) = tw l p i:=by
 unfold tw;rw [ay hi,blz];simp only [blx,h,bm2,if_false,bmi,blq]
theorem ar5 (l:List Fd) (p:AS):tw l p (f7 p).length = nv l p:=by unfold tw nv;rw [bks]
theorem abe (h:lc l p x = true) (h2:zi l p x = true):yo l p x = true:=by unfold yo;rw [h,h2];rfl
theorem a7t (h:lc l p x = false):yo l p x = false:=by unfold yo;rw [h];rfl
theorem a7x (h:zi l p x = false):yo l p x = false:=by unfold yo;rw [h];simp
end
end
section
open Go.Proofs
theorem ap1:goodFn Tryz.prog 204:=wgx Tryz.func204
theorem ath (s:AS):a7 Tryz.prog 204 [pA s] (ae [pP (asl (f7 s))]):=by
 refine hpx (nt:=18) Tryz.func204 ?_;refine w_6 ?_;refine m9 0 ?_;refine w_9 ?_;refine a6 (ι:=Nat × List AS × AS) ⟨[(0,some _)],[]⟩ ⟨⟨c9,trivial⟩,trivial⟩ (fun x=>⟨[(3,some (.v (.one (.ref 0 x.2.1.length)))),(4,some (vA x.2.2))],[(0,some (.arr true 1 46 x.2.1.length (lf sC x.2.1)))]⟩) (fun x=>TsI s x) (fun x=>x.1) ((s.toNat + 1,[0],s)) (b95 s) ⟨⟨zy,zy,trivial⟩,⟨⟨_,rfl,(yp (CoP.refl _))⟩,trivial⟩⟩ ?_;rintro x hx;have hlen:=hx.2;have hsl:=s.isLt;refine w_6 ?_;refine hcn (fun h0=>?_) (fun h0=>?_)
 ·
  have hne:x.2.2 ≠ 0:=fun e=>h0 (by rw [e];rfl);refine w_6 ?_;refine m9 1 ?_;refine r9 2 true ?_;refine w_4 ?_;refine rq rfl rfl rfl rfl rfl ?_ (hp:=(zc hne));refine w_4 ?_;refine ⟨(x.1 - 1,x.2.1 ++ [x.2.2],(x.2.2 - 1) &&& s), ?_, ?_, ?_⟩
  · exact b9o hx hne
  · dsimp only
    omega
  exact ⟨⟨⟨_,rfl,(c7 rfl)⟩,⟨_,rfl,(bw (yu hne))⟩,c9,trivial⟩,⟨⟨_,rfl,(bz rfl (CoP.refl _))⟩,trivial⟩⟩
 have hz:x.2.2 = 0:=cg.1 h0;refine w_6 ?_;refine av 2 rfl rfl rfl ?_;exact hx8 rfl rfl rfl (⟨CoC.one (CoP.of_eq (by rw [<- bdd hx hz];rfl)),trivial⟩)
theorem b5n:goodFn Tryz.prog 238:=wgx Tryz.func238
theorem bfh (l:List Fd) (p x:AS):a7 Tryz.prog 238 [pP (fdl l),pA p,pA x] (ae [pB (zi l p x)]):=by
 refine hpx (nt:=27) Tryz.func238 ?_;refine cu ?_;refine a6 (ι:=AS) ⟨[(0,some _),(1,some _),(2,some _)],[]⟩ ⟨⟨c9,c9,c9,trivial⟩,trivial⟩ (fun r=>⟨[(7,some (vA r))],[]⟩) (fun r=>adc l p x r) (fun r=>r.toNat) (x) (b0g l p x) ⟨⟨zy,trivial⟩,trivial⟩ ?_;rintro r hr;refine w_6 ?_;refine hcn (fun h0=>?_) (fun h0=>?_)
 ·
  have hne:r ≠ 0:=fun e=>h0 (by rw [e];rfl);have hlow:=b66 hr hne;refine w_9 ?_;refine rqw rfl rfl rfl rfl rfl ?_;refine w_2 ?_;refine rc rfl rfl rfl rfl rfl rfl t6 (x6 l (noA x (ip r))) (⟨CoC.refl _,cci (by rw [bgi r hne rfl,go];rfl),trivial⟩) rfl rfl ?_;refine w_5 ?_;refine hcd (fun h1=>?_) (fun h1=>?_)
  · refine w_4 ?_;exact hx8 rfl rfl rfl (⟨ccb (bas hlow.1 hlow.2 (qr.symm.trans (decide_eq_true bot))).symm,trivial⟩)
  refine w_4 ?_;refine rq rfl rfl rfl rfl rfl ?_ (hp:=(zc hne));refine w_3 ?_;refine ⟨r &&& (r - 1), ?_, ?_, ?_⟩
  · exact b28 hr hne (qr.symm.trans (decide_eq_false bot))
  · exact bc9 hne
  exact ⟨⟨⟨_,rfl,(bw (am7 hne))⟩,c9,c9,c9,trivial⟩,trivial⟩
 have hz:r = 0:=cg.1 h0;refine w_5 ?_;exact hx8 rfl rfl rfl (⟨ccb (b7v hr hz).symm,trivial⟩)
theorem b89:goodFn Tryz.prog 203:=wgx Tryz.func203
theorem b65 (l:List Fd) (p:AS):a7 Tryz.prog 203 [pP (fdl l),pA p] (ae [pA (nv l p)]):=by
 refine hpx (nt:=33) Tryz.func203 ?_;refine ce ?_;have htl:=afe p;refine w_2 ?_;refine qcx ap1 (ath p) ?_;refine w_4 ?_;refine a6 (ι:=Nat) ⟨[(0,some _),(1,some _),(9,some _),(10,some _)],[]⟩ ⟨⟨c9,c9,c9,c9,trivial⟩,trivial⟩ (fun i=>⟨[(5,some (vA (tw l p i))),(11,some (vI i))],[]⟩) (fun i=>i <= (f7 p).length) (fun i=>(f7 p).length - i) (0) (bkl _) ⟨⟨⟨_,rfl,(bw rfl)⟩,zy,trivial⟩,trivial⟩ ?_;rintro i hi;refine w_5 ?_;refine hcd (fun h0=>?_) (fun h0=>?_)
 ·
  refine ik ?_;refine qcx t6 (x6 l ((f7 p).getD i default)) ?_;refine w_5 ?_;refine am rfl rfl (fun r1=>?_) (fun r1=>?_)
  ·
   have h1:=tz1 r1;(iterate 3 refine qy ?_ (hg:=(gtt r1)));refine qcx b5n (bfh l p ((f7 p).getD i default)) ?_ (hg:=(gtt r1));refine w_2 ?_;refine a8 _ rfl (fun r2=>?_) (fun r2=>?_)
   · have h2:=bp r1 r2;refine ce ?_;exact lpx (i + 1) ⟨⟨⟨_,rfl,(by first | exact bw (by rw [bOr,aaf bos (abe (qr.symm.trans (decide_eq_true bot)) bot)];rfl) | exact bw (by rw [va bos (a7x bot)]) | exact bw (by rw [va bos (a7t (qr.symm.trans (decide_eq_false bot)))]))⟩,zy,c9,c9,c9,c9,trivial⟩,trivial⟩
   have h2:=bp r1 r2;refine w_5 ?_;exact lpx (i + 1) ⟨⟨⟨_,rfl,(by first | exact bw (by rw [bOr,aaf bos (abe (qr.symm.trans (decide_eq_true bot)) bot)];rfl) | exact bw (by rw [va bos (a7x bot)]) | exact bw (by rw [va bos (a7t (qr.symm.trans (decide_eq_false bot)))]))⟩,zy,c9,c9,c9,c9,trivial⟩,trivial⟩
  have h1:=tz2 r1;(iterate 4 refine k9 (gft r1) ?_);refine rq rfl rfl rfl rfl rfl ?_ (hp:=r1);refine aq ?_;refine a8 _ rfl (fun e=>by cases e) (fun _=>?_);refine w_5 ?_
  exact lpx (i + 1) ⟨⟨⟨_,rfl,(by first | exact bw (by rw [bOr,aaf bos (abe (qr.symm.trans (decide_eq_true bot)) bot)];rfl) | exact bw (by rw [va bos (a7x bot)]) | exact bw (by rw [va bos (a7t (qr.symm.trans (decide_eq_false bot)))]))⟩,zy,c9,c9,c9,c9,trivial⟩,trivial⟩
 obtain rfl:i = (f7 p).length:=by omega
 refine w_6 ?_;exact hx8 rfl rfl rfl (⟨cci (by rw [ar5]),trivial⟩)
end
end Go.Hx

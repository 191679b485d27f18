/- A part of the proof: Hx9b Hx9c. -/
import Derived.Test.YtdcdbghdgjlhhaaGreatOx07
set_option linter.all false
namespace Go.Hx
section
open Go.RowKit
def CoP (x y:PV):Prop:=∀ m u,bc m x u → bc m y u
def CoC (x y:PC):Prop:=∀ m u,fz m x u → fz m y u
def CoL:List PC → List PC → Prop
 | [],[]=>True
 | x :: xs,y :: ys=>CoC x y ∧ CoL xs ys
 | _,_=>False
theorem CoL.sound {m:Imm}:∀ {xs ys:List PC} {us:List Value},CoL xs ys → ce m xs us → ce m ys us
 | [],[],[],_,_=>trivial
 | _ :: _,_ :: _,_ :: _,h,k=>⟨h.1 _ _ k.1,CoL.sound h.2 k.2⟩
 | [],_ :: _,_,h,_=>h.elim
 | _ :: _,[],_,h,_=>h.elim
 | [],[],_ :: _,_,h=>h.elim
 | _ :: _,_ :: _,[],_,h=>h.elim
theorem CoC.refl (x:PC):CoC x x:=fun _ _ h=>h
theorem CoL.refl:∀ (xs:List PC),CoL xs xs
 | []=>trivial
 | x :: xs=>⟨CoC.refl x,CoL.refl xs⟩
def CoH:HV → HV → Prop
 | .p x, .p y=>CoP x y
 | h,h'=>h = h'
def wg:List HV → List HV → Prop
 | [],[]=>True
 | x :: xs,y :: ys=>CoH x y ∧ wg xs ys
 | _,_=>False
def j3:HC → HC → Prop
 | .one x, .one y=>CoH x y
 | .agg l, .agg l'=>wg l l'
 | _,_=>False
def bg:List HC → List HC → Prop
 | [],[]=>True
 | x :: xs,y :: ys=>j3 x y ∧ bg xs ys
 | _,_=>False
def CoR:HR → HR → Prop
 | .v x, .v y=>j3 x y
 | .tup l, .tup l'=>bg l l'
 | _,_=>False
def CoM (x y:Option PV):Prop :=
 match x,y with
 | some a,some b=>CoP a b
 | none,none=>True
 | _,_=>False
def CoO:af → af → Prop
 | .mp kk n f, .mp kk' n' f'=>kk' = kk ∧ n ≤ n' ∧ ∀ m,CoM (f m) (f' m)
 | .ex d v b x, .ex d' v' b' x'=>d' = d ∧ v' = v ∧ b' = b ∧ x' = x
 | .bun B, .bun B'=>B' = B
 | .opq s e n R, .opq s' e' n' R'=>s' = s ∧ e' = e ∧ n' = n ∧ ∀ v bk h,R v bk h → R' v bk h
 | .bld fr T e l, .bld fr' T' e' l'=>(fr' = true → fr = true) ∧ T' = T ∧ e' = e ∧ l' = l
 | .box l, .box l'=>wg l l'
 | .arr wr s e n f, .arr wr' s' e' n' f'=>(wr' = true → wr = true) ∧ s' = s ∧ e' = e ∧ n' = n ∧ ∀ i j,i < n → j < s → CoP (f i j) (f' i j)
 | .arr wr s e n f, .arrh s' e' n' ms' f'=>(wr = true ∨ n = 0) ∧ s' = s ∧ e' = e ∧ n' = n ∧ ∀ i j,i < n → j < s → CoH (.p (f i j)) (f' i j)
 | .arrh s e n ms f, .arrh s' e' n' ms' f'=>s' = s ∧ e' = e ∧ n' = n ∧ (∀ i j,i < n → j < s → CoH (f i j) (f' i j)) ∧ ((∀ k ∈ ms,k ∈ ms') ∨ ∀ i j k,i < n → j < s → (f' i j).men k → k ∈ ms')
 | .arrh s e n ms f, .arr wr' s' e' n' f'=>s' = s ∧ e' = e ∧ n' = n ∧ ∀ i j,i < n → j < s → CoH (f i j) (.p (f' i j))
 | .nest e et es n m g pd, .nest e' et' es' n' m' g' pd'=>e' = e ∧ et' = et ∧ es' = es ∧ n' = n ∧ pd' = pd ∧ (∀ i,i < n → m' i = m i) ∧ ∀ i r j,i < n → r < m i → j < es → CoP (g i r j) (g' i r j)
 | _,_=>False
theorem CoP.refl (x:PV):CoP x x:=fun _ _ h=>h
theorem CoH.refl (h:HV):CoH h h:=by cases h <;> first | exact CoP.refl _ | rfl
theorem wg.refl:∀ (l:List HV),wg l l
 | []=>trivial
 | x :: xs=>⟨CoH.refl x,wg.refl xs⟩
theorem j3.refl (x:HC):j3 x x:=by cases x <;> first | exact CoH.refl _ | exact wg.refl _
theorem bg.refl:∀ (l:List HC),bg l l
 | []=>trivial
 | x :: xs=>⟨j3.refl x,bg.refl xs⟩
theorem CoR.refl (x:HR):CoR x x:=by cases x <;> first | exact j3.refl _ | exact bg.refl _
theorem CoM.refl (x:Option PV):CoM x x:=by cases x <;> first | exact CoP.refl _ | trivial
theorem CoM.of_eq {x y:Option PV} (h:x = y):CoM x y:=h ▸ CoM.refl x
theorem CoO.refl (x:af):CoO x x:=by
 cases x with
 | mp kk n f=>exact ⟨rfl,Nat.le_refl _,fun _=>CoM.refl _⟩
 | bld fr T e l=>exact ⟨fun h=>h,rfl,rfl,rfl⟩
 | ex d v b x=>exact ⟨rfl,rfl,rfl,rfl⟩
 | bun B=>exact rfl
 | opq s e n R=>exact ⟨rfl,rfl,rfl,fun _ _ _ h=>h⟩
 | box l=>exact wg.refl l
 | arr wr s e n f=>exact ⟨fun h=>h,rfl,rfl,rfl,fun _ _ _ _=>CoP.refl _⟩
 | arrh s e n ms f=>exact ⟨rfl,rfl,rfl,fun _ _ _ _=>CoH.refl _, .inl fun _ h=>h⟩
 | nest e et es n m g pd=>exact ⟨rfl,rfl,rfl,rfl,rfl,fun _ _=>rfl,fun _ _ _ _ _ _=>CoP.refl _⟩
theorem CoO.of_eq {x y:af} (h:x = y):CoO x y:=h ▸ CoO.refl x
theorem CoR.of_eq {x y:HR} (h:x = y):CoR x y:=h ▸ CoR.refl x
theorem CoP.of_eq {x y:PV} (h:x = y):CoP x y:=h ▸ CoP.refl x
theorem CoP.trans {x y z:PV} (h:CoP x y) (k:CoP y z):CoP x z:=fun m u hu=>k m u (h m u hu)
theorem CoP.sl {n n' s s':Nat} {c c':Bool} {f f':Nat → Nat → PV} (hn:n' = n) (hs:s' = s ∨ n = 0) (hc:c' = true → c = true) (hf:∀ i j,i < n → j < s → CoP (f i j) (f' i j)):CoP (.sl n s c f) (.sl n' s' c' f'):=by
 subst hn
 rintro m u ⟨ad,cap,h1,h2,h3,h4,h5⟩
 refine ⟨ad,cap,h1,h2,h3,fun h=>h4 (hc h),fun hp=>?_⟩
 obtain rfl:s' = s:=by omega
 obtain ⟨b,off,hb,hcell⟩:=h5 hp
 exact ⟨b,off,hb,fun i j hi hj=>by
  obtain ⟨x,hx,hr⟩:=hcell i j hi hj
  exact ⟨x,hx,hf i j hi hj m x hr⟩⟩
theorem CoP.raw_sl {ad:Option Addr} {cap s:Nat} {f:Nat → Nat → PV} (h:cap ≤ maxLen):CoP (.raw (.slice ad 0 cap)) (.sl 0 s false f):=by
 rintro m u ⟨rfl,_⟩
 exact ⟨ad,cap,rfl,Nat.zero_le _,h,(fun h=>by cases h),fun h=>by omega⟩
section
variable {c:Ctx} {o:aw}
theorem bq.co {x y:HV} {u:Value} (h:CoH x y) (hr:bq c o x u):bq c o y u:=by
 cases x <;> cases y <;> simp only [CoH] at h <;> first | (cases h;done) | (exact h _ _ hr) | (subst h;exact hr) | (injections;subst_vars;exact hr)
theorem bh.co:∀ {xs ys:List HV} {us:List Value},wg xs ys → bh c o xs us → bh c o ys us
 | [],[],[],_,_=>trivial
 | _ :: _,_ :: _,_ :: _,h,k=>⟨k.1.co h.1,bh.co h.2 k.2⟩
 | [],_ :: _,_,h,_=>h.elim
 | _ :: _,[],_,h,_=>h.elim
 | [],[],_ :: _,_,h=>h.elim
 | _ :: _,_ :: _,[],_,h=>h.elim
theorem dq.co {x y:HC} {u:Value} (h:j3 x y) (hr:dq c o x u):dq c o y u:=by
 cases x <;> cases y <;> simp only [j3] at h
 · exact bq.co h hr
 obtain ⟨us,e,hl⟩:=hr;exact ⟨us,e,hl.co h⟩
theorem c6.co:∀ {xs ys:List HC} {us:List Value},bg xs ys → c6 c o xs us → c6 c o ys us
 | [],[],[],_,_=>trivial
 | _ :: _,_ :: _,_ :: _,h,k=>⟨k.1.co h.1,c6.co h.2 k.2⟩
 | [],_ :: _,_,h,_=>h.elim
 | _ :: _,[],_,h,_=>h.elim
 | [],[],_ :: _,_,h=>h.elim
 | _ :: _,_ :: _,[],_,h=>h.elim
theorem ax.co {x y:HR} {u:Value} (h:CoR x y) (hr:ax c o x u):ax c o y u:=by
 cases x <;> cases y <;> simp only [CoR] at h
 · exact dq.co h hr
 obtain ⟨us,e,hl⟩:=hr;exact ⟨us,e,hl.co h⟩
end
theorem CoH.p_men {x:PV} {y:HV} (h:CoH (.p x) y) (k:Nat):¬ y.men k:=by
 cases y with
 | p y=>exact fun hf=>hf
 | ref=>cases h
 | ptr=>cases h
 | eptr=>cases h
 | win=>cases h
 | clo=>cases h
 | row=>cases h
 | rptr=>cases h
 | pin=>cases h
theorem CoH.men {x y:HV} (h:CoH x y) {k:Nat} (hk:y.men k):x.men k:=by
 cases x with
 | p x=>exact (CoH.p_men h k hk).elim
 | ref=>obtain rfl:_ = y:=h;exact hk
 | ptr=>obtain rfl:_ = y:=h;exact hk
 | eptr=>obtain rfl:_ = y:=h;exact hk
 | win=>obtain rfl:_ = y:=h;exact hk
 | clo=>obtain rfl:_ = y:=h;exact hk
 | row=>obtain rfl:_ = y:=h;exact hk
 | rptr=>obtain rfl:_ = y:=h;exact hk
 | pin=>obtain rfl:_ = y:=h;exact hk
theorem CoO.form {a b:af} (h:CoO a b):(∃ l l',a = .box l ∧ b = .box l') ∨ ∃ s e n,a.dim = some (s,e,n) ∧ b.dim = some (s,e,n):=by
 cases a <;> cases b <;> simp only [CoO] at h
 · exact .inr ⟨_,_,_,rfl,rfl⟩
 · exact .inr ⟨_,_,_,rfl,rfl⟩
 · obtain ⟨rfl,_⟩:=h;exact .inr ⟨_,_,_,rfl,rfl⟩
 · exact .inr ⟨_,_,_,rfl,rfl⟩
 · obtain ⟨rfl,rfl,rfl,_⟩:=h;exact .inr ⟨_,_,_,rfl,rfl⟩
 · grind
 · obtain ⟨_,rfl,rfl,rfl,_⟩:=h;exact .inr ⟨_,_,_,rfl,rfl⟩
 · obtain ⟨_,rfl,rfl,rfl,_⟩:=h;exact .inr ⟨_,_,_,rfl,rfl⟩
 · obtain ⟨rfl,rfl,rfl,_⟩:=h;exact .inr ⟨_,_,_,rfl,rfl⟩
 · obtain ⟨rfl,rfl,rfl,_⟩:=h;exact .inr ⟨_,_,_,rfl,rfl⟩
 obtain ⟨rfl,rfl,rfl,rfl,rfl,_⟩:=h;exact .inr ⟨_,_,_,vh,vh⟩
theorem CoO.nest {c:Ctx} {a b:af} {id:Nat} (h:CoO a b):dt c a c b id:=fun e et es n m g pd hb=>by
 subst hb
 cases a <;> simp only [CoO] at h
 obtain ⟨rfl,rfl,rfl,rfl,rfl,h1,_⟩:=h
 grind
theorem CoO.evo {c:Ctx} {o o':aw} {id:Nat} {a b:af} (h:CoO a b) (ha:o id = some a) (hb:o' id = some b):Evo c o c o' id:=by
 rcases h.form with ⟨l,l',rfl,rfl⟩ | ⟨s,e,n,h1,h2⟩
 · exact .inr (.inl ⟨l,l',ha,hb,rfl⟩)
 exact .inr (.inr ⟨a,b,s,e,n,n,ha,h1,hb,h2,Nat.le_refl _,fun _=>rfl,h.nest⟩)
theorem x9 {c:Ctx} {o o':aw} (ho:∀ id ob,o' id = some ob → ∃ ob',o id = some ob' ∧ CoO ob' ob):∀ k,Evo c o c o' k:=fun k=>by
 cases hk:o' k with
 | none=>exact .inl hk
 | some ob =>
  obtain ⟨ob',h1,h2⟩:=ho k ob hk
  exact h2.evo h1 hk
theorem d9.co {base:Nat} {c:Ctx} {o:aw} {w:World} {id:Nat} {a b:af} (h:d9 base c o w id a) (hc:CoO a b):d9 base c o w id b:=by
 cases a with
 | nest e et es n m g pd =>
  cases b <;> simp only [CoO] at hc
  obtain ⟨rfl,rfl,rfl,rfl,rfl,hm,hg⟩:=hc
  obtain ⟨q1,q2,q3,q4,q5,q6,q7⟩:=h
  refine ⟨q1,q2,fun i hi=>by rw [hm i hi];exact q3 i hi,q4,q5,fun i hi=>?_,q7⟩
  rw [hm i hi]
  rcases q6 i hi with r0 | ⟨ys,r1,r2⟩
  · exact .inl r0
  refine .inr ⟨ys,r1,fun r j hr hj=>?_⟩
  obtain ⟨x,hx,hxr⟩:=r2 r j hr hj
  exact ⟨x,hx,hg i r j hi hr hj _ _ hxr⟩
 | bun B =>
  cases b <;> simp only [CoO] at hc
  grind
 | opq s e n R =>
  cases b <;> simp only [CoO] at hc
  obtain ⟨rfl,rfl,rfl,hR⟩:=hc
  exact ⟨h.1,h.2.1,hR _ _ _ h.2.2⟩
 | ex d v b' x =>
  cases b <;> simp only [CoO] at hc
  grind
 | bld fr T e l =>
  cases b <;> simp only [CoO] at hc
  obtain ⟨hf,rfl,rfl,rfl⟩:=hc
  obtain ⟨b,p,v,h1,h2,h3,h4,h5,h6,h7,h8⟩:=h
  exact ⟨b,p,v,h1,h2,h3,h4,h5,h6,h7,fun hh=>h8 (hf hh)⟩
 | mp kk n f =>
  cases b <;> simp only [CoO] at hc
  rename_i kk' n' f'
  obtain ⟨rfl,hn,hf⟩:=hc
  obtain ⟨b,es,clock,q1,q2,q3,q4,q5,q6,q7,q8,q9⟩:=h
  refine ⟨b,es,clock,q1,q2,q3,q4,q5,Nat.le_trans q6 hn,q7,fun x hx=>?_,fun key y hy=>?_⟩
  · obtain ⟨key,y,r1,r2,r3⟩:=q8 x hx
    have:=hf key
    rw [r2] at this
    cases hy:f' key with
    | none=>rw [hy] at this;exact this.elim
    | some y'=>rw [hy] at this;exact ⟨key,y',r1,hy,this _ _ r3⟩
  have:=hf key
  rw [hy] at this
  cases hy2:f key with
  | none=>rw [hy2] at this;exact this.elim
  | some y2=>exact q9 key y2 hy2
 | box l =>
  cases b <;> simp only [CoO] at hc
  obtain ⟨b,C,e,q1,q2,q3,q4,q5⟩:=h
  exact ⟨b,C,e,q1,q2,q3,q4,q5.co hc⟩
 | arr wr s e n f =>
  cases b <;> simp only [CoO] at hc
  · obtain ⟨g1,rfl,rfl,rfl,g2⟩:=hc
    obtain ⟨q0,q1,q2⟩:=h
    refine ⟨q0,q1, ?_⟩
    rcases q2 with ⟨q3,xs,q4,q5⟩ | ⟨q3,q4,q5⟩
    · exact .inl ⟨q3,xs,q4,fun i j hi hj=>by
       obtain ⟨x,hx,hr⟩:=q5 i j hi hj
       exact ⟨x,hx,g2 i j hi hj _ _ hr⟩⟩
    refine .inr ⟨?_,q4,CoP.sl rfl (.inl rfl) (fun h=>h) (fun i j hi hj=>g2 i j hi hj) _ _ q5⟩
    grind
  rename_i s' e' n' ms' f'
  obtain ⟨g1,rfl,rfl,rfl,g2⟩:=hc
  obtain ⟨q0,q1,q2⟩:=h
  refine ⟨q0,q1,fun i j k hi hj hk=>((g2 i j hi hj).p_men k hk).elim, ?_⟩
  rcases q2 with ⟨q3,xs,q4,q5⟩ | ⟨q3,q4,q5⟩
  · exact .inl ⟨q3,xs,q4,fun i j hi hj=>by
     obtain ⟨x,hx,hr⟩:=q5 i j hi hj
     exact ⟨x,hx,bq.co (x:=.p (f i j)) (g2 i j hi hj) hr⟩⟩
  have q3':wr = true → n' = 0:=fun hw=>q3.elim (fun q=>by rw [hw] at q;cases q) (fun h=>h)
  have h0:=g1.elim q3' (fun h=>h)
  refine .inr ⟨h0,q4,CoP.sl h0.symm (.inl rfl) (fun h=>h) (fun i j hi _=>by omega) _ _ q5⟩
 | arrh s e n ms f =>
  cases b <;> simp only [CoO] at hc
  · obtain ⟨rfl,rfl,rfl,g2⟩:=hc
    obtain ⟨q0,q1,_,q2⟩:=h
    refine ⟨q0,q1, ?_⟩
    rcases q2 with ⟨q3,xs,q4,q5⟩ | ⟨rfl,q4,q5⟩
    · exact .inl ⟨q3,xs,q4,fun i j hi hj=>by
       obtain ⟨x,hx,hr⟩:=q5 i j hi hj
       exact ⟨x,hx,bq.co (g2 i j hi hj) hr⟩⟩
    exact .inr ⟨.inr rfl,q4,CoP.sl rfl (.inl rfl) (fun h=>h) (fun i j hi _=>by omega) _ _ q5⟩
  obtain ⟨rfl,rfl,rfl,g2,g3⟩:=hc
  obtain ⟨q0,q1,qm,q2⟩:=h
  refine ⟨q0,q1,fun i j k hi hj hk=>g3.elim (fun g=>g k (qm i j k hi hj ((g2 i j hi hj).men hk))) (fun g=>g i j k hi hj hk), ?_⟩
  rcases q2 with ⟨q3,xs,q4,q5⟩ | ⟨rfl,q4,q5⟩
  · exact .inl ⟨q3,xs,q4,fun i j hi hj=>by
     obtain ⟨x,hx,hr⟩:=q5 i j hi hj
     exact ⟨x,hx,hr.co (g2 i j hi hj)⟩⟩
  grind
theorem ak.relax {w0:World} {nt:Nat} {c:Ctx} {s:S} {a:Act} {w:World} (h:ak w0 nt c s a w) (s':S) (ht:∀ d x,s'.t d = some x → ∃ y,s.t d = some y ∧ CoR y x) (ho:∀ id ob,s'.o id = some ob → ∃ ob',s.o id = some ob' ∧ CoO ob' ob):ak w0 nt c s' a w:=by
 have hevo:∀ k,Evo c s.o c s'.o k:=x9 ho
 refine ⟨h.defers,h.size,h.below,fun d x hx=>?_,fun k ob hob=>?_,fun i i' obi obi' b hi hi'=>?_,h.imm,fun k ob b hob=>?_,h.was,h.frm,fun k ob b hob=>?_,fun k hk=>(h.fixed k hk).trans (hevo k)⟩
 · obtain ⟨y,hy,hc⟩:=ht d x hx
   exact ax.co hc ((h.tmps d y hy).evo (Imm.le.refl _) fun k _=>hevo k)
 · obtain ⟨ob',h1,h2⟩:=ho k ob hob
   exact ((h.objs k ob' h1).keep (o':=s'.o) (c':=c) (w':=w) (Imm.le.refl _) rfl rfl (fun j _=>hevo j) (fun _ _=>rfl)).co h2
 · obtain ⟨o1,h1,_⟩:=ho _ _ hi
   obtain ⟨o2,h2,_⟩:=ho _ _ hi'
   exact h.inj i i' o1 o2 b h1 h2
 · obtain ⟨o1,h1,_⟩:=ho _ _ hob
   exact h.sep k o1 b h1
 obtain ⟨o1,h1,_⟩:=ho _ _ hob
 exact h.fsep k o1 b h1
abbrev Wr:=List (Nat × Option af)
def fw:Wr → Nat → Option (Option af)
 | [],_=>none
 | (e,x) :: r,d=>bif Nat.beq e d then some x else fw r d
def S.setW (s:S) (l:Wr):S:={ s with o:=fun k=>match fw l k with | some r=>r | none=>s.o k }
theorem nf:∀ {l:Wr} {k:Nat} {r:Option af},fw l k = some r → (k,r) ∈ l
 | (e,x) :: l,k,r,h=>by
  simp only [fw] at h
  by_cases hk:e = k
  · simp_all
  have:Nat.beq e k = false:=by
   rw [Bool.eq_false_iff]
   simp_all
  rw [this] at h
  exact List.mem_cons_of_mem _ (nf (by simpa using h))
theorem a8j {l:Wr} {k:Nat} (h:∀ p ∈ l,p.1 ≠ k):fw l k = none:=by
 cases hl:fw l k with
 | none=>rfl
 | some r=>exact absurd rfl (h _ (nf hl))
def lk:List (Nat × af) → aw
 | [],_=>none
 | (e,x) :: r,d=>bif Nat.beq e d then some x else lk r d
structure Mem (c:Ctx) (o:aw) (w:World):Prop where
 objs:∀ id ob,o id = some ob → d9 0 c o w id ob
 inj:∀ id id' ob ob' b,o id = some ob → o id' = some ob' → c.blk id b → c.blk id' b → id = id'
 imm:∀ b ob,c.imm b = some ob → w.heap[b]? = some ob
 sep:∀ id ob b,o id = some ob → c.blk id b → c.imm b = none
def br (P:Program) (f:FuncId) (args:List HC) (o1:List (Nat × af)) (res:HR) (o2:List (Nat × af)) (fx:List Nat):Prop :=
 ∀ (w:World) (c:Ctx) (us:List Value),Mem c (lk o1) w → c6 c (lk o1) args us →
  Calls P f us.toArray w fun e w'=>∃ v c',e = .returned v ∧ ax c' (lk o2) res v ∧ Mem c' (lk o2) w' ∧ Below 0 w w' ∧
   (∀ b,b < w.heap.size → (∀ id ob,lk o1 id = some ob → ¬ c.blk id b) → w'.heap[b]? = w.heap[b]? ∧ c'.imm b = c.imm b) ∧
   (∀ id ob b,lk o2 id = some ob → c'.blk id b → w.heap.size ≤ b ∨ ∃ id0 ob0,lk o1 id0 = some ob0 ∧ c.blk id0 b) ∧
   (∀ id ∈ fx,Evo c (lk o1) c' (lk o2) id)
def NMx (s:S) (W:List Nat) (k:Nat):Prop:=(∀ d x,s.t d = some x → ¬ x.men k) ∧ (∀ id ob,id ∉ W → s.o id = some ob → ¬ ob.men k) ∧ k < 1000
theorem NM.nmx {s:S} {k:Nat} (h:NM s k) (W:List Nat):NMx s W k:=⟨h.1,fun id ob _=>h.2.1 id ob,h.2.2⟩
theorem NMx.nm {s:S} {k:Nat} (h:NMx s [k] k) (hn:s.o k = none):NM s k:=⟨h.1,fun id ob ho=>h.2.1 id ob (by
 intro hm
 rw [List.mem_singleton.1 hm,hn] at ho
 cases ho) ho,h.2.2⟩
def tu (o1 o2:List (Nat × af)):Wr:=o2.map (fun p=>(p.1,some p.2)) ++ o1.map (fun p=>(p.1,none))
def d7 (l:List (Nat × af)):List Nat:=l.map (·.1)
theorem ux:∀ {l:List (Nat × af)} {k:Nat} {ob:af},lk l k = some ob → k ∈ d7 l
 | (e,x) :: l,k,ob,h=>by
  simp only [lk] at h
  by_cases hk:e = k
  · subst hk;exact List.mem_cons_self
  have:Nat.beq e k = false:=by
   rw [Bool.eq_false_iff]
   simp_all
  rw [this] at h
  exact List.mem_cons_of_mem _ (ux (l:=l) (by simpa using h))
theorem va:∀ {l:List (Nat × af)} {k:Nat},k ∈ d7 l → ∃ ob,lk l k = some ob
 | (e,x) :: l,k,h=>by
  simp only [lk]
  by_cases hk:e = k
  · simp_all
  have:Nat.beq e k = false:=by
   rw [Bool.eq_false_iff]
   simp_all
  rw [this]
  rcases List.mem_cons.1 h with h | h
  · grind
  simpa using va h
theorem a1x (o1 o2:List (Nat × af)) (k:Nat):fw (tu o1 o2) k = match lk o2 k with | some ob=>some (some ob) | none=>match lk o1 k with | some _=>some none | none=>none:=by
 have h1:fw (o1.map fun p=>(p.1,(none:Option af))) k = match lk o1 k with | some _=>some none | none=>none:=by
  induction o1 with
  | nil=>rfl
  | cons p r ih =>
   simp only [List.map_cons,fw,lk]
   grind
 unfold tu
 induction o2 with
 | nil=>simpa [lk] using h1
 | cons p r ih =>
  simp only [List.map_cons,List.cons_append,fw,lk]
  grind
section
variable {w0:World} {nt:Nat} {c:Ctx} {s:S} {a:Act} {w:World}
theorem ak.lend (h:ak w0 nt c s a w) {o1:List (Nat × af)} (hsub:∀ id ob,lk o1 id = some ob → ∃ ob',s.o id = some ob' ∧ CoO ob' ob) :
 Mem c (lk o1) w ∧ ∀ x u,c6 c s.o x u → c6 c (lk o1) x u:=by
 have h':=h.relax ⟨fun _=>none,lk o1⟩ (fun d x hx=>by cases hx) hsub
 exact ⟨⟨h'.objs,h'.inj,h'.imm,h'.sep⟩,fun x u hx=>c6.evo (Imm.le.refl c.imm) (fun k _=>x9 hsub k) hx⟩
theorem ak.fcall (h:ak w0 nt c s a w) {o1 o2:List (Nat × af)} {fx:List Nat} (hsub:∀ id ob,lk o1 id = some ob → ∃ ob',s.o id = some ob' ∧ CoO ob' ob)
 (hnew:∀ id,id ∈ d7 o2 → id ∉ d7 o1 → s.o id = none) (hnm:∀ id,id ∈ d7 o2 → id ∉ fx ∨ id ∉ d7 o1 → NMx s (d7 o1 ++ d7 o2) id)
 (hcl:∀ id ob,lk o2 id = some ob → ∀ k,ob.men k → k ∈ d7 o2) {w':World} {c':Ctx} (hm:Mem c' (lk o2) w') (hb:Below 0 w w')
 (hfr:∀ b,b < w.heap.size → (∀ id ob,lk o1 id = some ob → ¬ c.blk id b) → w'.heap[b]? = w.heap[b]? ∧ c'.imm b = c.imm b)
 (hbk:∀ id ob b,lk o2 id = some ob → c'.blk id b → w.heap.size ≤ b ∨ ∃ id0 ob0,lk o1 id0 = some ob0 ∧ c.blk id0 b)
 (hfx:∀ id ∈ fx,Evo c (lk o1) c' (lk o2) id) :
 ∃ c'',c''.old = c.old ∧ c''.imm = c'.imm ∧ ak w0 nt c'' (s.setW (tu o1 o2)) a w' ∧ (∀ x u,ax c' (lk o2) x u → (∀ k,x.men k → k ∈ d7 o2) → ax c'' (s.setW (tu o1 o2)).o x u):=by
 let c'':Ctx:={ old:=c.old,imm:=c'.imm,tab:=c'.tab,own:=fun id=>match lk o2 id with | some _=>c'.own id | none=>c.own id,blk:=fun id=>match lk o2 id with | some _=>c'.blk id | none=>c.blk id,rows:=fun id=>match lk o2 id with | some _=>c'.rows id | none=>c.rows id }
 let s'':=s.setW (tu o1 o2)
 have ho:∀ k,s''.o k = match lk o2 k with | some ob=>some ob | none=>match lk o1 k with | some _=>none | none=>s.o k:=fun k=>by
  show (match fw (tu o1 o2) k with | some r=>r | none=>s.o k) = _
  rw [a1x]
  cases lk o2 k with
  | some ob=>rfl
  | none=>cases lk o1 k <;> rfl
 have own2:∀ k ob,lk o2 k = some ob → c''.own k = c'.own k ∧ c''.blk k = c'.blk k ∧ c''.rows k = c'.rows k:=fun k ob hk=>by
  refine ⟨?_, ?_, ?_⟩
  · show (match lk o2 k with | some _=>c'.own k | none=>c.own k) = _;rw [hk]
  · show (match lk o2 k with | some _=>c'.blk k | none=>c.blk k) = _;rw [hk]
  show (match lk o2 k with | some _=>c'.rows k | none=>c.rows k) = _;rw [hk]
 have own1:∀ k,lk o2 k = none → c''.own k = c.own k ∧ c''.blk k = c.blk k ∧ c''.rows k = c.rows k:=fun k hk=>by
  refine ⟨?_, ?_, ?_⟩
  · show (match lk o2 k with | some _=>c'.own k | none=>c.own k) = _;rw [hk]
  · show (match lk o2 k with | some _=>c'.blk k | none=>c.blk k) = _;rw [hk]
  show (match lk o2 k with | some _=>c'.rows k | none=>c.rows k) = _;rw [hk]
 have out:∀ k ob,s''.o k = some ob → lk o2 k = none → lk o1 k = none ∧ s.o k = some ob:=fun k ob hk h2=>by
  rw [ho,h2] at hk
  cases h1:lk o1 k with
  | some _=>rw [h1] at hk;cases hk
  | none=>rw [h1] at hk;exact ⟨rfl,hk⟩
 have foot:∀ k ob b,lk o1 k = none → s.o k = some ob → c.blk k b → b < w.heap.size ∧ ∀ id ob,lk o1 id = some ob → ¬ c.blk id b:=fun k ob b h1 hs hbk=>by
  refine ⟨((h.objs k ob hs).blk hbk).2,fun id ob0 hid e=>?_⟩
  obtain ⟨ob',hso,_⟩:=hsub id ob0 hid
  have:=h.inj id k ob' ob b hso hs e hbk
  subst this
  rw [h1] at hid
  cases hid
 have hle:Imm.le c.imm c'.imm:=fun b ob hbo=>by
  have hlt:=(Array.getElem?_eq_some_iff.1 (h.imm b ob hbo)).1
  rw [(hfr b hlt fun id ob0 hid e=>by
   obtain ⟨ob',hso,_⟩:=hsub id ob0 hid
   rw [h.sep id ob' b hso e] at hbo
   cases hbo).2]
  exact hbo
 have hevo:∀ k,(lk o2 k ≠ none → k ∈ fx ∧ k ∈ d7 o1) → Evo c s.o c'' s''.o k:=fun k hk=>by
  cases h2:lk o2 k with
  | none =>
   cases h1:lk o1 k with
   | none=>exact Evo.of_same (by rw [ho,h2,h1]) (own1 k h2).1 (own1 k h2).2.2
   | some ob=>exact .inl (by rw [ho,h2,h1])
  | some ob2 =>
   obtain ⟨hkf,hk1⟩:=hk (by rw [h2];simp)
   obtain ⟨ob1,h1⟩:=va hk1
   obtain ⟨ob0,h0,hco⟩:=hsub k ob1 h1
   have ho2:s''.o k = some ob2:=by rw [ho,h2]
   have hw:=(own2 k ob2 h2).1
   rcases hfx k hkf with e | ⟨l,l',e1,e2,e3⟩ | ⟨oa,ob',sz,e,n,n',e1,e1',e2,e2',e3,e4,e5⟩
   · rw [h2] at e;cases e
   · rw [h1] at e1
     rw [h2] at e2
     simp only [Option.some.injEq] at e1 e2
     subst e1;subst e2
     rcases hco.form with ⟨l0,l1,rfl,_⟩ | ⟨_,_,_,_,q⟩
     · exact .inr (.inl ⟨l0,l',h0,ho2,hw.trans e3⟩)
     cases q
   rw [h1] at e1
   rw [h2] at e2
   simp only [Option.some.injEq] at e1 e2
   subst e1;subst e2
   rcases hco.form with ⟨_,_,_,rfl⟩ | ⟨_,_,_,q1,q2⟩
   · cases e1'
   rw [q2] at e1'
   simp only [Option.some.injEq,Prod.mk.injEq] at e1'
   obtain ⟨rfl,rfl,rfl⟩:=e1'
   exact .inr (.inr ⟨ob0,_,_,_,_,n',h0,q1,ho2,e2',e3,fun hn=>hw.trans (e4 hn),fun ea et es na ma ga pd hb=>by
    obtain ⟨e0,et0,n0,m0,g0,pd0,r1,r2,r3⟩:=e5 _ _ _ _ _ _ _ hb
    obtain ⟨e6,et6,n6,m6,g6,pd6,t1,t2,t3⟩:=hco.nest (c:=c) (id:=k) _ _ _ _ _ _ _ r1
    refine ⟨e6,et6,n6,m6,g6,pd6,t1,Nat.le_trans t2 r2,fun i hi=>?_⟩
    obtain ⟨u1,_⟩:=t3 i hi
    obtain ⟨u3,u4⟩:=r3 i (Nat.lt_of_lt_of_le hi t2)
    refine ⟨Nat.le_trans u1 u3,fun hm=>?_⟩
    rw [(own2 k _ h2).2.2]
    exact u4 (by omega)⟩)
 have hevo2:∀ k,k ∈ d7 o2 → Evo c' (lk o2) c'' s''.o k:=fun k hk=>by
  obtain ⟨ob,hob⟩:=va hk
  exact Evo.of_same (by rw [ho,hob]) (own2 k ob hob).1 (own2 k ob hob).2.2
 have hmen:∀ k,NMx s (d7 o1 ++ d7 o2) k ∨ (lk o2 k ≠ none → k ∈ fx ∧ k ∈ d7 o1):=fun k=>by
  by_cases hk:lk o2 k = none
  · exact .inr fun e=>absurd hk e
  by_cases h3:k ∈ fx ∧ k ∈ d7 o1
  · exact .inr fun _=>h3
  obtain ⟨ob,hob⟩:=Option.ne_none_iff_exists'.1 hk
  refine .inl (hnm k (ux hob) ?_)
  by_cases h4:k ∈ fx
  · exact .inr fun h5=>h3 ⟨h4,h5⟩
  exact .inl h4
 have hno:∀ D:Nat,w.heap[D]? = some (.deferred (some [])) → ∀ id ob,lk o1 id = some ob → ¬ c.blk id D:=fun D hD id ob hid hbk=>by
  obtain ⟨ob',h1,_⟩:=hsub id ob hid
  obtain ⟨x1,hc,hdt⟩:=(h.objs id ob' h1).data hbk
  rw [hD] at hc
  cases hc
  cases hdt
 refine ⟨c'',rfl,rfl,⟨h.defers.keep (fun D hD=>(hfr D (Array.getElem?_eq_some_iff.1 hD).1 (hno D hD)).1) (fun D hi hD=>(hfr D (Array.getElem?_eq_some_iff.1 hD).1 (hno D hD)).2.trans hi),h.size,h.below.trans hb,fun d x hx=>?_,fun k ob hob=>?_,fun i i' ob ob' b hi hi' hbi hbi'=>?_,hm.imm,fun k ob b hob hbb=>?_,fun b hb'=>?_,fun b ob hbo=>?_,fun k ob b hob hbb=>?_,fun k hk=>?_⟩,fun x u hx hxm=>?_⟩
 · refine (h.tmps d x hx).evo hle fun k hk=>?_
   rcases hmen k with hn | hn
   · exact absurd hk (hn.1 d x hx)
   exact hevo k hn
 · cases h2:lk o2 k with
   | some ob2 =>
    have:ob2 = ob:=by
     have e:s''.o k = some ob:=hob
     rw [ho,h2] at e
     simpa using e
    subst this
    exact (hm.objs k ob2 h2).keep (Imm.le.refl _) (own2 k _ h2).1 (own2 k _ h2).2.1 (fun j hj=>hevo2 j (hcl k _ h2 j hj)) (fun b _=>rfl) (own2 k _ h2).2.2
   | none =>
    obtain ⟨h1,hs⟩:=out k ob hob h2
    refine (h.objs k ob hs).keep hle (own1 k h2).1 (own1 k h2).2.1 (fun j hj=>?_) (fun b hbb=>?_) (own1 k h2).2.2
    · rcases hmen j with hn | hn
      · refine absurd hj (hn.2.1 k ob ?_ hs)
        intro hk
        rcases List.mem_append.1 hk with hk | hk
        · obtain ⟨_,e⟩:=va hk;rw [h1] at e;cases e
        obtain ⟨_,e⟩:=va hk;rw [h2] at e;cases e
      exact hevo j hn
    exact (hfr b (foot k ob b h1 hs hbb).1 (foot k ob b h1 hs hbb).2).1
 · have mixed:∀ i i' ob' ob2,lk o2 i = some ob2 → lk o2 i' = none → s''.o i' = some ob' → c'.blk i b → c.blk i' b → False:=fun i i' ob' ob2 q1 q2 q3 q4 q5=>by
    obtain ⟨r1,r2⟩:=out i' ob' q3 q2
    obtain ⟨f1,f2⟩:=foot i' ob' b r1 r2 q5
    rcases hbk i ob2 b q1 q4 with e | ⟨id0,ob0,e1,e2⟩
    · omega
    exact f2 id0 ob0 e1 e2
   cases h2:lk o2 i with
   | some ob2 =>
    rw [(own2 i _ h2).2.1] at hbi
    cases h2':lk o2 i' with
    | some ob2' =>
     rw [(own2 i' _ h2').2.1] at hbi'
     exact hm.inj i i' ob2 ob2' b h2 h2' hbi hbi'
    | none =>
     rw [(own1 i' h2').2.1] at hbi'
     exact (mixed i i' ob' ob2 h2 h2' hi' hbi hbi').elim
   | none =>
    rw [(own1 i h2).2.1] at hbi
    cases h2':lk o2 i' with
    | some ob2' =>
     rw [(own2 i' _ h2').2.1] at hbi'
     exact (mixed i' i ob ob2' h2' h2 hi hbi' hbi).elim
    | none =>
     rw [(own1 i' h2').2.1] at hbi'
     exact h.inj i i' ob ob' b (out i ob hi h2).2 (out i' ob' hi' h2').2 hbi hbi'
 · cases h2:lk o2 k with
   | some ob2 =>
    rw [(own2 k _ h2).2.1] at hbb
    exact hm.sep k ob2 b h2 hbb
   | none =>
    rw [(own1 k h2).2.1] at hbb
    obtain ⟨h1,hs⟩:=out k ob hob h2
    obtain ⟨f1,f2⟩:=foot k ob b h1 hs hbb
    show c'.imm b = none
    rw [(hfr b f1 f2).2]
    exact h.sep k ob b hs hbb
 · show c'.imm b = c.old.1 b
   have hb':c.frm b ≠ none:=hb'
   cases hf:c.frm b with
   | none=>exact absurd hf hb'
   | some ob =>
    have hlt:=(Array.getElem?_eq_some_iff.1 (h.frm b ob hf)).1
    rw [(hfr b hlt fun id ob0 hid e=>by
     obtain ⟨ob',hso,_⟩:=hsub id ob0 hid
     rw [h.fsep id ob' b hso e] at hf
     cases hf).2]
    exact h.was b hb'
 · have hf:c.frm b = some ob:=hbo
   have hlt:=(Array.getElem?_eq_some_iff.1 (h.frm b ob hf)).1
   rw [(hfr b hlt fun id ob0 hid e=>by
    obtain ⟨ob',hso,_⟩:=hsub id ob0 hid
    rw [h.fsep id ob' b hso e] at hf
    cases hf).1]
   exact h.frm b ob hf
 · show c.frm b = none
   cases h2:lk o2 k with
   | some ob2 =>
    rw [(own2 k _ h2).2.1] at hbb
    rcases hbk k ob2 b h2 hbb with e | ⟨id0,ob0,e1,e2⟩
    · cases hf:c.frm b with
      | none=>rfl
      | some x =>
       have:=(Array.getElem?_eq_some_iff.1 (h.frm b x hf)).1
       omega
    obtain ⟨ob',hso,_⟩:=hsub id0 ob0 e1
    exact h.fsep id0 ob' b hso e2
   | none =>
    rw [(own1 k h2).2.1] at hbb
    exact h.fsep k ob b (out k ob hob h2).2 hbb
 · rcases hmen k with hn | hn
   · exact absurd hn.2.2 (by omega)
   exact (h.fixed k hk).trans (hevo k hn)
 exact ax.evo (c:=c') (o:=lk o2) (Imm.le.refl c'.imm) (fun k hk=>hevo2 k (hxm k hk)) hx
end
end
section
open Go.RowKit
section
variable {P:Program} {E:Env} {nt:Nat} {s:S} {w0:World} {m0:Old} {a:Act} {w:World} {c:Ctx}
open Classical in
noncomputable def frozenImm (c:Ctx) (w:World) (id:Nat):Imm:=fun b=>if c.blk id b then w.heap[b]? else c.imm b
theorem nu (h:ak w0 nt c s a w) {id:Nat} {ob:af} (ho:s.o id = some ob):mi (frozenImm c w id):=c.tab.mono fun b x hb=>by
 unfold frozenImm
 by_cases hk:c.blk id b
 · rw [h.sep id ob b ho hk] at hb;cases hb
 rw [if_neg hk];exact hb
theorem ak.freeze (h:ak w0 nt c s a w) {id:Nat} {ob:af} (ho:s.o id = some ob):ak w0 nt { old:=c.old,imm:=frozenImm c w id,tab:=nu h ho,own:=c.own,blk:=c.blk,rows:=c.rows } (s.setO id none) a w:=by
 have hle:Imm.le c.imm (frozenImm c w id):=fun b x hb=>by
  unfold frozenImm
  by_cases hk:c.blk id b
  · rw [h.sep id ob b ho hk] at hb;cases hb
  rw [if_neg hk];exact hb
 have hevo:∀ k,Evo c s.o { old:=c.old,imm:=frozenImm c w id,tab:=nu h ho,own:=c.own,blk:=c.blk,rows:=c.rows } (s.setO id none).o k:=fun k=>by
  by_cases hk:k = id
  · subst hk;exact .inl (by simp [S.setO])
  exact Evo.of_same (by simp [S.setO,hk]) rfl
 have hold:∀ k obk,(s.setO id none).o k = some obk → k ≠ id ∧ s.o k = some obk:=fun k obk hk=>by
  by_cases hki:k = id
  · subst hki;simp [S.setO] at hk
  exact ⟨hki,by simpa [S.setO,hki] using hk⟩
 refine ⟨h.defers.keep (fun _ _=>rfl) (fun D hD hd=>by
  show frozenImm c w id D = none
  unfold frozenImm
  rw [if_neg (fun e=>by
   obtain ⟨x1,hc,hdt⟩:=(h.objs id ob ho).data e
   rw [hd] at hc
   cases hc
   cases hdt)]
  exact hD),h.size,h.below,fun d x hx=>(h.tmps d x hx).evo hle fun k _=>hevo k,fun k obk hobk=>?_,fun i i' obi obi' b hi hi'=>h.inj i i' obi obi' b (hold _ _ hi).2 (hold _ _ hi').2,fun b x hb=>?_,fun k obk b hobk hb=>?_,fun b hb=>?_,h.frm,fun k obk b hobk hb=>h.fsep k obk b (hold _ _ hobk).2 hb,fun k hk=>(h.fixed k hk).trans (hevo k)⟩
 · exact (h.objs k obk (hold _ _ hobk).2).keep hle rfl rfl (fun j _=>hevo j) (fun _ _=>rfl)
 · have hb:frozenImm c w id b = some x:=hb
   unfold frozenImm at hb
   split at hb
   · exact hb
   exact h.imm b x hb
 · show frozenImm c w id b = none
   obtain ⟨hne,hs⟩:=hold _ _ hobk
   unfold frozenImm
   rw [if_neg fun e=>hne (h.inj k id obk ob b hs ho hb e)]
   exact h.sep k obk b hs hb
 show frozenImm c w id b = c.old.1 b
 unfold frozenImm
 rw [if_neg fun e=>hb (h.fsep id ob b ho e)]
 exact h.was b hb
theorem zu (h:ak w0 nt c s a w) {id b off:Nat} {x:Value} (hb:c.blk id b) (hc:w.cell? ⟨b,off,none⟩ = some x):i4 (frozenImm c w id) b off = some x:=by
 unfold World.cell? at hc
 unfold i4 frozenImm
 rw [if_pos hb]
 dsimp only at hc
 split at hc
 · rename_i cs e fr hb'
   rw [hb']
   simpa using hc
 cases hc
theorem tk (h:ak w0 nt c s a w) {id:Nat} {ob:af} (ho:s.o id = some ob):Imm.le c.imm (frozenImm c w id):=fun b x hb=>by
 unfold frozenImm
 by_cases hk:c.blk id b
 · rw [h.sep id ob b ho hk] at hb;cases hb
 rw [if_neg hk];exact hb
theorem ns (h:ak w0 nt c s a w) {id:Nat} {wr:Bool} {sz:Nat} {e:TypeId} {n:Nat} {f:Nat → Nat → PV} (ho:s.o id = some (.arr wr sz e n f)):bc (frozenImm c w id) (.sl n sz false f) (c.own id):=by
 have hle:=tk h ho
 obtain ⟨h0,h1,h5⟩:=h.objs id _ ho
 rcases h5 with ⟨h6,xs,h2,h4⟩ | ⟨h6,h7,h8⟩
 · rcases h2.2 with ⟨hv,hz⟩ | ⟨g,cap,cur,hv,hbase,hheap,hcap,hmax,hcs,htake⟩
   · exact ⟨none,0,by rw [hv,hz],by omega,by simp [maxLen],(fun hh=>by cases hh),fun hn=>by omega⟩
   refine ⟨_,cap,by rw [hv],hcap,hmax,(fun hh=>by cases hh),fun hn=>⟨g,0,rfl,fun i j hi hj=>?_⟩⟩
   obtain ⟨x,hx,hr⟩:=h4 i j hi hj
   have:=h2.cells (g:=g) (by rw [hv];rfl) _ _ hx
   rw [add_lit] at this
   exact ⟨x,zu h (by rw [h6,hv];rfl) this,bc.mono hle hr⟩
 obtain ⟨ad,cap,q1,q2,q3,q4,q5⟩:=bc.mono hle h8
 exact ⟨ad,cap,q1,q2,q3,(fun hh=>by cases hh),q5⟩
def mpP (kk:KK) (n:Nat) (f:MK → Option PV):PV:=.mp kk n (fun m=>(f m).isSome) fun m=>(f m).getD .any
theorem a8v (h:ak w0 nt c s a w) {id:Nat} {l:List HV} {ps:List PV} (ho:s.o id = some (.box l)) (hp:j7 l = some ps):bc (frozenImm c w id) (.vp ps.length fun j=>ps.getD j .any) (c.own id):=by
 have hle:=tk h ho
 obtain ⟨b,C,e,h1,h2,h3,h4,h5⟩:=h.objs id _ ho
 have hP:=m7 h5 hp
 refine ⟨b,0,h1,fun j hj=>?_⟩
 obtain ⟨v,hv,hr⟩:=hP.get j ps[j] (List.getElem?_eq_getElem hj)
 refine ⟨v,zu h (by rw [h2];rfl) ?_,by simpa [List.getD,List.getElem?_eq_getElem hj] using bc.mono hle hr⟩
 rw [Nat.zero_add,cell_of_row w b j C e (0,0) h4]
 simpa using hv
theorem ak.retell (h:ak w0 nt c s a w) (d:Nat) (x:HR) (hx:ax c s.o x (a.tmps.getD d undef)):ak w0 nt c (s.put d (some x)) a w:=by
 refine ⟨h.defers,h.size,h.below,fun k y hy=>?_,h.objs,h.inj,h.imm,h.sep,h.was,h.frm,h.fsep,h.fixed⟩
 simp only [S.put] at hy
 by_cases hk:k = d
 · subst hk
   rw [if_pos rfl] at hy
   simp only [Option.some.injEq] at hy
   subst hy
   exact hx
 rw [if_neg hk] at hy
 exact h.tmps k y hy
def tg (e:Ev) (d:Nat) (r:HR):Ev:=fun y=>match y with | .tmp k=>bif Nat.beq k d then some r else e y | _=>e y
theorem a9h (s:S) (d:Nat) (r:HR) (id:Nat):ev ((s.setO id none).put d (some r)) = tg (ev s) d r:=by
 funext y
 cases y with
 | tmp k =>
  simp only [ev,tg,S.put,S.setO]
  by_cases hk:k = d
  · subst hk;simp
  have:Nat.beq k d = false:=by
   rw [Bool.eq_false_iff]
   exact fun hb=>hk (Nat.eq_of_beq_eq_true hb)
  simp [hk,this]
 | _=>rfl
def qn (E:Env) (o:aw) (e:Ev):Op → Option (Out × Nat)
 | .slice t (.tmp d) lo hi mx =>
  match e (.tmp d) with
  | some (.v (.one (.ref id n))) =>
   match o id with
   | some (.arr _ sz _ n' f) =>
    match j5 E (tg e d (cf (.sl n sz false f))) t (.tmp d) lo hi mx with
    | some out=>some (⟨n' = n ∧ out.pre,out.val⟩,id)
    | none=>none
   | _=>none
  | _=>none
 | _=>none
theorem a6u {e:Ev} {t:TypeId} {x:Operand} {lo hi mx:Option Operand} {out:Out} (h:j5 E e t x lo hi mx = some out):∃ y,out.val = cf y:=by
 unfold j5 at h
 split at h <;> try (cases h;done)
 · split at h <;> try (cases h;done)
   simp only [Option.some.injEq] at h
   subst h
   exact ⟨_,rfl⟩
 split at h <;> try (cases h;done)
 split at h <;> try (cases h;done)
 simp only [Option.some.injEq] at h
 subst h
 exact ⟨_,rfl⟩
theorem a6s (hE:cr P E) (h:ak w0 nt c s a w) {o:Oper} {out:Out} {id:Nat} (hq:qn E s.o (ev s) o.op = some (out,id)) (hp:out.pre) :
 ∃ v c',(execOp a.eval o).run P w = .ok (.value v) w ∧ c'.old = c.old ∧ ak w0 nt c' (s.setO id none) a w ∧ ax c' (s.setO id none).o out.val v:=by
 unfold qn at hq
 split at hq <;> try (cases hq;done)
 rename_i t d lo hi mx hop
 split at hq <;> try (cases hq;done)
 rename_i id1 n hd
 split at hq <;> try (cases hq;done)
 rename_i wr sz e n' f ho
 split at hq <;> try (cases hq;done)
 rename_i out1 hsl
 simp only [Option.some.injEq,Prod.mk.injEq] at hq
 obtain ⟨rfl,rfl⟩:=hq
 obtain ⟨rfl,hp⟩:=hp
 have hfr:=h.freeze ho
 have hrep:ax { old:=c.old,imm:=frozenImm c w id1,tab:=nu h ho,own:=c.own,blk:=c.blk,rows:=c.rows } (s.setO id1 none).o (cf (.sl n' sz false f)) (a.tmps.getD d undef):=by
  obtain ⟨_,_,h3⟩:=h.tmps d _ hd
  have:=(h3 _ _ _ _ ho rfl).2 rfl
  rw [this]
  exact ns h ho
 have hre:=hfr.retell d _ hrep
 rw [← a9h s d _ id1] at hsl
 obtain ⟨v,hv,hvr⟩:=x6 hE hre hsl hp
 refine ⟨v,_, ?_,(by rfl),hfr,hvr⟩
 unfold execOp
 simp only [hop]
 have:(Instr.sliceAt t (a.eval (.tmp d)) (lo.map a.eval) (hi.map a.eval) (mx.map a.eval)).run P w = .ok v w:=hv
 simp [this]
end
end
end Go.Hx

/- A part of the proof: Hx2. -/
import Derived.Test.YtdcdbghdgjlhhaaGreatOx01
set_option linter.all false
namespace Go.Hx
section
open Go.RowKit
inductive HV where
 | p (x:PV)
 | ref (id n:Nat)
 | ptr (id off:Nat)
 | eptr (id n i j:Nat)
 | win (id n i m:Nat)
 | clo (g:FuncId) (k:Nat) (caps:Nat → HV)
 | row (id i k:Nat)
 | rptr (id i k r j:Nat)
 | pin (id n:Nat) (ad:Option Addr) (cap:Nat)
inductive HC where
 | one (h:HV)
 | agg (l:List HV)
inductive HR where
 | v (c:HC)
 | tup (l:List HC)
inductive af where
 | mp (kk:KK) (n:Nat) (f:MK → Option PV)
 | bld (fr:Bool) (T e:TypeId) (l:List Value)
 | ex (d:Nat) (v:Value) (b:Nat) (x:Obj)
 | bun (B:Nat → Option Obj)
 | opq (s:Nat) (e:TypeId) (n:Nat) (R:Value → (Nat → Prop) → (Nat → Option Obj) → Prop)
 | box (l:List HV)
 | arr (wr:Bool) (s:Nat) (e:TypeId) (n:Nat) (f:Nat → Nat → PV)
 | arrh (s:Nat) (e:TypeId) (n:Nat) (ms:List Nat) (f:Nat → Nat → HV)
 | nest (e et:TypeId) (es n:Nat) (m:Nat → Nat) (g:Nat → Nat → Nat → PV) (pd:Option (Nat × Nat))
def af.dim:af → Option (Nat × TypeId × Nat)
 | .mp ..=>some (0,0,0)
 | .bld ..=>some (0,1,0)
 | .ex d _ _ _=>some (0,d,0)
 | .bun _=>some (0,3,0)
 | .opq s e n _=>some (s,e,n)
 | .box _=>none
 | .arr _ s e n _=>some (s,e,n)
 | .arrh s e n _ _=>some (s,e,n)
 | .nest e _ _ n _ _ none=>some (1,e,n)
 | .nest e _ _ n _ _ (some _)=>some (1,e,n + 1)
abbrev aw:=Nat → Option af
structure S where
 t:Nat → Option HR
 o:aw
abbrev Old:=Imm × Imm × (Nat → Value) × aw × (Nat → Nat → Value)
structure Ctx where
 old:Old
 imm:Imm
 tab:mi imm
 own:Nat → Value
 blk:Nat → Nat → Prop
 rows:Nat → Nat → Value
abbrev Ctx.frm (c:Ctx):Imm:=c.old.2.1
abbrev Ctx.start (c:Ctx):Ctx:={ old:=c.old,imm:=c.imm,tab:=c.tab,own:=c.old.2.2.1,blk:=c.blk,rows:=c.old.2.2.2.2 }
def bq (c:Ctx) (o:aw):HV → Value → Prop
 | .p x,u=>bc c.imm x u
 | .ref id k,u=>u.oneCell' = true ∧ (∀ l,o id ≠ some (.box l)) ∧ ∀ ob s e n,o id = some ob → ob.dim = some (s,e,n) → k ≤ n ∧ (k = n → u = c.own id)
 | .ptr id off,u=>u.oneCell' = true ∧ (∀ ob d,o id = some ob → ob.dim ≠ some d) ∧ ∀ l,o id = some (.box l) → ∃ b,c.own id = .pointer (some ⟨b,0,none⟩) ∧ u = .pointer (some ⟨b,off,none⟩)
 | .eptr id k i j,u=>u.oneCell' = true ∧ (∀ l,o id ≠ some (.box l)) ∧ ∀ ob s e n,o id = some ob → ob.dim = some (s,e,n) → k ≤ n ∧ (k = n → i < n → ∃ b off cap,c.own id = .slice (some ⟨b,off,none⟩) n cap ∧ u = .pointer (some ⟨b,off + (i * s + j),none⟩))
 | .win id k i m,u=>u.oneCell' = true ∧ (∀ l,o id ≠ some (.box l)) ∧ ∀ ob s e n,o id = some ob → ob.dim = some (s,e,n) → k ≤ n ∧ (k = n → ∃ ad ad' cap,c.own id = .slice ad n cap ∧ u = .slice ad' m (cap - i) ∧ i + m ≤ n ∧ n ≤ cap ∧ cap ≤ maxLen ∧ (i < cap → ad' = ad.map (·.add (i * s))))
 | .row id i k,u=>u.oneCell' = true ∧ ∀ e et es n m g pd,o id = some (.nest e et es n m g pd) → i < n ∧ k ≤ m i ∧ (k = m i → u = c.rows id i)
 | .rptr id i k r j,u=>u.oneCell' = true ∧ ∀ e et es n m g pd,o id = some (.nest e et es n m g pd) → i < n ∧ k ≤ m i ∧ (k = m i → r < k → ∃ b off cap,c.rows id i = .slice (some ⟨b,off,none⟩) k cap ∧ u = .pointer (some ⟨b,off + (r * es + j),none⟩))
 | .pin id k ad cap,u=>u = .slice ad k cap ∧ (∀ l,o id ≠ some (.box l)) ∧ ∀ ob s e n,o id = some ob → ob.dim = some (s,e,n) → k ≤ n ∧ (k = n → u = c.own id)
 | .clo g k caps,u=>∃ cs:List Value,u = .func (.func g) #[] cs.toArray ∧ cs.length = k ∧ ∀ i,i < k → ∃ x,cs[i]? = some x ∧ bq c o (caps i) x
theorem bq.oneCell {c:Ctx} {o:aw} {h:HV} {u:Value} (hr:bq c o h u):u.oneCell' = true:=by
 cases h with
 | p x=>exact bc.oneCell (m:=c.imm) hr
 | ref id k=>exact hr.1
 | ptr id off=>exact hr.1
 | eptr id k i j=>exact hr.1
 | win id k i m=>exact hr.1
 | row id i k=>exact hr.1
 | rptr id i k r j=>exact hr.1
 | pin id n ad cap=>rw [hr.1];rfl
 | clo g k caps=>obtain ⟨cs,rfl,_⟩:=hr;rfl
def bh (c:Ctx) (o:aw):List HV → List Value → Prop
 | [],[]=>True
 | x :: xs,u :: us=>bq c o x u ∧ bh c o xs us
 | _,_=>False
def dq (c:Ctx) (o:aw):HC → Value → Prop
 | .one x,u=>bq c o x u
 | .agg l,u=>∃ us:List Value,u = .agg us.toArray ∧ bh c o l us
def c6 (c:Ctx) (o:aw):List HC → List Value → Prop
 | [],[]=>True
 | x :: xs,u :: us=>dq c o x u ∧ c6 c o xs us
 | _,_=>False
def ax (c:Ctx) (o:aw):HR → Value → Prop
 | .v x,u=>dq c o x u
 | .tup l,u=>∃ us:List Value,u = .tuple us.toArray ∧ c6 c o l us
section
variable {c:Ctx} {o:aw}
theorem bh.length:∀ {xs:List HV} {us:List Value},bh c o xs us → us.length = xs.length
 | [],[],_=>rfl
 | x :: xs,u :: us,h=>by simp [h.2.length]
 | [],_ :: _,h=>h.elim
 | _ :: _,[],h=>h.elim
theorem bh.get:∀ {xs:List HV} {us:List Value},bh c o xs us → ∀ (i:Nat) (x:HV),xs[i]? = some x → ∃ u,us[i]? = some u ∧ bq c o x u
 | _ :: _,_ :: _,h,0,x,hx=>by simp at hx;subst hx;exact ⟨_,rfl,h.1⟩
 | _ :: _,_ :: _,h,i + 1,x,hx=>by
  obtain ⟨u,hu,hr⟩:=bh.get h.2 i x (by simpa using hx)
  grind
 | [],_,_,i,x,hx=>by simp at hx
 | _ :: _,[],h,_,_,_=>h.elim
theorem bh.of_get:∀ {xs:List HV} {us:List Value},us.length = xs.length → (∀ (i:Nat) (x:HV) (u:Value),xs[i]? = some x → us[i]? = some u → bq c o x u) → bh c o xs us
 | [],[],_,_=>trivial
 | x :: xs,u :: us,hl,h=>⟨h 0 x u rfl rfl,bh.of_get (by simpa using hl) fun i y v hy hv=>h (i + 1) y v (by simpa using hy) (by simpa using hv)⟩
 | [],_ :: _,hl,_=>by simp at hl
 | _ :: _,[],hl,_=>by simp at hl
theorem bh.oneCell:∀ {xs:List HV} {us:List Value},bh c o xs us → ∀ u ∈ us,u.oneCell' = true
 | [],[],_,u,hu=>by cases hu
 | _ :: _,v :: us,h,u,hu=>by
  rcases List.mem_cons.1 hu with rfl | hu
  · exact h.1.oneCell
  exact bh.oneCell h.2 u hu
 | [],_ :: _,h,_,_=>h.elim
 | _ :: _,[],h,_,_=>h.elim
theorem bh.append:∀ {xs ys:List HV} {us vs:List Value},bh c o xs us → bh c o ys vs → bh c o (xs ++ ys) (us ++ vs)
 | [],_,[],_,_,h=>h
 | _ :: _,_,_ :: _,_,h,k=>⟨h.1,bh.append h.2 k⟩
 | [],_,_ :: _,_,h,_=>h.elim
 | _ :: _,_,[],_,h,_=>h.elim
theorem bh.take:∀ {xs:List HV} {us:List Value} (n:Nat),bh c o xs us → bh c o (xs.take n) (us.take n)
 | _,_,0,_=>by simp [bh]
 | [],[],n + 1,_=>by simp [bh]
 | _ :: _,_ :: _,n + 1,h=>⟨h.1,bh.take n h.2⟩
 | [],_ :: _,_,h=>h.elim
 | _ :: _,[],_,h=>h.elim
theorem bh.drop:∀ {xs:List HV} {us:List Value} (n:Nat),bh c o xs us → bh c o (xs.drop n) (us.drop n)
 | _,_,0,h=>h
 | [],[],n + 1,_=>by simp [bh]
 | _ :: xs,_ :: us,n + 1,h=>bh.drop (xs:=xs) (us:=us) n h.2
 | [],_ :: _,_,h=>h.elim
 | _ :: _,[],_,h=>h.elim
theorem bh.of_P:∀ {xs:List PV} {us:List Value},eb c.imm xs us → bh c o (xs.map .p) us
 | [],[],_=>trivial
 | _ :: _,_ :: _,h=>⟨h.1,bh.of_P h.2⟩
 | [],_ :: _,h=>h.elim
 | _ :: _,[],h=>h.elim
def PC.toH:PC → HC
 | .one x=>.one (.p x)
 | .agg l=>.agg (l.map .p)
def PR.toH:PR → HR
 | .v x=>.v x.toH
 | .tup l=>.tup (l.map PC.toH)
theorem dq.of_P {x:PC} {u:Value} (h:fz c.imm x u):dq c o x.toH u:=by
 cases x with
 | one x=>exact h
 | agg l=>obtain ⟨us,e,hl⟩:=h;exact ⟨us,e,bh.of_P hl⟩
theorem c6.of_P:∀ {xs:List PC} {us:List Value},ce c.imm xs us → c6 c o (xs.map PC.toH) us
 | [],[],_=>trivial
 | _ :: _,_ :: _,h=>⟨dq.of_P h.1,c6.of_P h.2⟩
 | [],_ :: _,h=>h.elim
 | _ :: _,[],h=>h.elim
theorem ax.of_P {x:PR} {u:Value} (h:kn c.imm x u):ax c o x.toH u:=by
 cases x with
 | v x=>exact dq.of_P h
 | tup l=>obtain ⟨us,e,hl⟩:=h;exact ⟨us,e,c6.of_P hl⟩
theorem c6.get:∀ {xs:List HC} {us:List Value},c6 c o xs us → ∀ (i:Nat) (x:HC),xs[i]? = some x → ∃ u,us[i]? = some u ∧ dq c o x u
 | _ :: _,_ :: _,h,0,x,hx=>by simp at hx;subst hx;exact ⟨_,rfl,h.1⟩
 | _ :: _,_ :: _,h,i + 1,x,hx=>by
  obtain ⟨u,hu,hr⟩:=c6.get h.2 i x (by simpa using hx)
  grind
 | [],_,_,i,x,hx=>by simp at hx
 | _ :: _,[],h,_,_,_=>h.elim
end
def HV.men:HV → Nat → Prop
 | .p _,_=>False
 | .ref id _,k=>k = id
 | .ptr id _,k=>k = id
 | .eptr id _ _ _,k=>k = id
 | .win id _ _ _,k=>k = id
 | .clo _ n caps,k=>∃ i,i < n ∧ (caps i).men k
 | .row id _ _,k=>k = id
 | .rptr id _ _ _ _,k=>k = id
 | .pin id _ _ _,k=>k = id
def HC.men:HC → Nat → Prop
 | .one h,k=>h.men k
 | .agg l,k=>∃ h ∈ l,h.men k
def HR.men:HR → Nat → Prop
 | .v x,k=>x.men k
 | .tup l,k=>∃ x ∈ l,x.men k
def af.men:af → Nat → Prop
 | .mp ..,_=>False
 | .bld ..,_=>False
 | .ex ..,_=>False
 | .bun _,_=>False
 | .opq ..,_=>False
 | .box l,k=>∃ h ∈ l,h.men k
 | .arr ..,_=>False
 | .arrh _ _ _ ms _,k=>k ∈ ms
 | .nest _ _ _ _ _ _ (some p),k=>k = p.1
 | .nest _ _ _ _ _ _ none,_=>False
def NM (s:S) (k:Nat):Prop:=(∀ d x,s.t d = some x → ¬ x.men k) ∧ (∀ id ob,s.o id = some ob → ¬ ob.men k) ∧ k < 1000
def dt (c:Ctx) (ob:af) (c':Ctx) (ob':af) (id:Nat):Prop :=
 ∀ e et es n m g pd,ob' = .nest e et es n m g pd → ∃ e0 et0 n0 m0 g0 pd0,ob = .nest e0 et0 es n0 m0 g0 pd0 ∧ n0 ≤ n ∧ ∀ i,i < n0 → m0 i ≤ m i ∧ (m i = m0 i → c'.rows id i = c.rows id i)
theorem dt.same {c c':Ctx} {ob:af} {id:Nat} (h:c'.rows id = c.rows id):dt c ob c' ob id:=fun e et es n m g pd hb=>⟨e,et,n,m,g,pd,hb,Nat.le_refl _,fun i _=>⟨Nat.le_refl _,fun _=>by rw [h]⟩⟩
def Evo (c:Ctx) (o:aw) (c':Ctx) (o':aw) (id:Nat):Prop :=
 o' id = none ∨ (∃ l l',o id = some (.box l) ∧ o' id = some (.box l') ∧ c'.own id = c.own id) ∨
 (∃ ob ob' s e n n',o id = some ob ∧ ob.dim = some (s,e,n) ∧ o' id = some ob' ∧ ob'.dim = some (s,e,n') ∧ n ≤ n' ∧ (n' = n → c'.own id = c.own id) ∧ dt c ob c' ob' id)
theorem Evo.refl (c:Ctx) (o:aw) (id:Nat):Evo c o c o id:=by
 cases h:o id with
 | none=>exact .inl h
 | some ob =>
  cases ob with
  | box l=>exact .inr (.inl ⟨l,l,h,h,rfl⟩)
  | mp kk n f=>exact .inr (.inr ⟨_,_,0,0,0,0,h,rfl,h,rfl,Nat.le_refl _,fun _=>rfl,dt.same rfl⟩)
  | bld fr T e l=>exact .inr (.inr ⟨_,_,0,1,0,0,h,rfl,h,rfl,Nat.le_refl _,fun _=>rfl,dt.same rfl⟩)
  | ex d v b x=>exact .inr (.inr ⟨_,_,0,d,0,0,h,rfl,h,rfl,Nat.le_refl _,fun _=>rfl,dt.same rfl⟩)
  | bun B=>exact .inr (.inr ⟨_,_,0,3,0,0,h,rfl,h,rfl,Nat.le_refl _,fun _=>rfl,dt.same rfl⟩)
  | opq s e n R=>exact .inr (.inr ⟨_,_,s,e,n,n,h,rfl,h,rfl,Nat.le_refl _,fun _=>rfl,dt.same rfl⟩)
  | arr wr s e n f=>exact .inr (.inr ⟨_,_,s,e,n,n,h,rfl,h,rfl,Nat.le_refl _,fun _=>rfl,dt.same rfl⟩)
  | arrh s e n ms f=>exact .inr (.inr ⟨_,_,s,e,n,n,h,rfl,h,rfl,Nat.le_refl _,fun _=>rfl,dt.same rfl⟩)
  | nest e et es n m g pd=>cases pd <;> exact .inr (.inr ⟨_,_,1,e,_,_,h,rfl,h,rfl,Nat.le_refl _,fun _=>rfl,dt.same rfl⟩)
theorem Evo.trans {c c' c'':Ctx} {o o' o'':aw} {id:Nat} (h:Evo c o c' o' id) (k:Evo c' o' c'' o'' id):Evo c o c'' o'' id:=by
 rcases k with k | ⟨l,l',k1,k2,k3⟩ | ⟨ob,ob',s,e,n,n',k1,k1',k2,k2',k3,k4,k5⟩
 · exact .inl k
 · rcases h with h | ⟨m,m',h1,h2,h3⟩ | ⟨oa,oa',s,e,n,n',h1,h1',h2,h2',h3,h4,_⟩
   · grind
   · exact .inr (.inl ⟨m,l',h1,k2,k3.trans h3⟩)
   rw [h2] at k1;simp only [Option.some.injEq] at k1;subst k1;cases h2'
 rcases h with h | ⟨m,m',h1,h2,h3⟩ | ⟨oa,oa',s2,e2,m,m',h1,h1',h2,h2',h3,h4,h5⟩
 · grind
 · rw [h2] at k1;simp only [Option.some.injEq] at k1;subst k1;cases k1'
 rw [h2] at k1
 simp only [Option.some.injEq] at k1
 subst k1
 rw [h2'] at k1'
 simp only [Option.some.injEq,Prod.mk.injEq] at k1'
 obtain ⟨rfl,rfl,rfl⟩:=k1'
 exact .inr (.inr ⟨oa,ob',_,_,m,n',h1,h1',k2,k2',by omega,fun hn=>by rw [k4 (by omega),h4 (by omega)],fun e et es n m g pd hb=>by
  obtain ⟨e0,et0,n0,m0,g0,pd0,q1,q2,q3⟩:=k5 e et es n m g pd hb
  obtain ⟨e1,et1,n1,m1,g1,pd1,r1,r2,r3⟩:=h5 _ _ _ _ _ _ _ q1
  refine ⟨e1,et1,n1,m1,g1,pd1,r1,Nat.le_trans r2 q2,fun i hi=>?_⟩
  obtain ⟨a1,a2⟩:=r3 i hi
  obtain ⟨b1,b2⟩:=q3 i (Nat.lt_of_lt_of_le hi r2)
  exact ⟨Nat.le_trans a1 b1,fun hm=>by rw [b2 (by omega),a2 (by omega)]⟩⟩)
theorem Evo.of_same {c c':Ctx} {o o':aw} {id:Nat} (h:o' id = o id) (hw:c'.own id = c.own id) (hr:c'.rows id = c.rows id:=by first | rfl | assumption | simp):Evo c o c' o' id:=by
 cases ho:o id with
 | none=>exact .inl (h.trans ho)
 | some ob =>
  cases ob with
  | box l=>exact .inr (.inl ⟨l,l,ho,h.trans ho,hw⟩)
  | mp kk n f=>exact .inr (.inr ⟨_,_,0,0,0,0,ho,rfl,h.trans ho,rfl,Nat.le_refl _,fun _=>hw,dt.same hr⟩)
  | bld fr T e l=>exact .inr (.inr ⟨_,_,0,1,0,0,ho,rfl,h.trans ho,rfl,Nat.le_refl _,fun _=>hw,dt.same hr⟩)
  | ex d v b x=>exact .inr (.inr ⟨_,_,0,d,0,0,ho,rfl,h.trans ho,rfl,Nat.le_refl _,fun _=>hw,dt.same hr⟩)
  | bun B=>exact .inr (.inr ⟨_,_,0,3,0,0,ho,rfl,h.trans ho,rfl,Nat.le_refl _,fun _=>hw,dt.same hr⟩)
  | opq s e n R=>exact .inr (.inr ⟨_,_,s,e,n,n,ho,rfl,h.trans ho,rfl,Nat.le_refl _,fun _=>hw,dt.same hr⟩)
  | arr wr s e n f=>exact .inr (.inr ⟨_,_,s,e,n,n,ho,rfl,h.trans ho,rfl,Nat.le_refl _,fun _=>hw,dt.same hr⟩)
  | arrh s e n ms f=>exact .inr (.inr ⟨_,_,s,e,n,n,ho,rfl,h.trans ho,rfl,Nat.le_refl _,fun _=>hw,dt.same hr⟩)
  | nest e et es n m g pd=>cases pd <;> exact .inr (.inr ⟨_,_,1,e,_,_,ho,rfl,h.trans ho,rfl,Nat.le_refl _,fun _=>hw,dt.same hr⟩)
section
variable {c c':Ctx} {o o':aw}
theorem bq.evo {h:HV} {u:Value} (hi:Imm.le c.imm c'.imm) (he:∀ id,h.men id → Evo c o c' o' id) (hr:bq c o h u):bq c' o' h u:=by
 induction h generalizing u with
 | p x=>exact bc.mono hi hr
 | ref id k =>
  obtain ⟨h1,h2,h3⟩:=hr
  rcases he id rfl with h | ⟨l,l',hl,hl',_⟩ | ⟨oa,ob,s,e,n,n',ha,hd,ha',hd',hn,hw,_⟩
  · exact ⟨h1,fun l=>by simp [h],fun ob s e n hob=>by simp [h] at hob⟩
  · grind
  refine ⟨h1,fun l hl=>?_,fun ob2 s2 e2 n2 h hd2=>?_⟩
  · rw [ha'] at hl;simp only [Option.some.injEq] at hl;subst hl;cases hd'
  grind
 | ptr id off =>
  obtain ⟨h1,h2,h3⟩:=hr
  rcases he id rfl with h | ⟨l,l',hl,hl',hw⟩ | ⟨oa,ob,s,e,n,n',ha,hd,ha',hd',hn,hw,_⟩
  · exact ⟨h1,fun ob d hob=>by simp [h] at hob,fun l=>by simp [h]⟩
  · refine ⟨h1,fun ob d hob=>by rw [hl'] at hob;simp only [Option.some.injEq] at hob;subst hob;simp [af.dim],fun l2 h=>?_⟩
    grind
  grind
 | eptr id k i j =>
  obtain ⟨h1,h2,h3⟩:=hr
  rcases he id rfl with h | ⟨l,l',hl,hl',_⟩ | ⟨oa,ob,s,e,n,n',ha,hd,ha',hd',hn,hw,_⟩
  · exact ⟨h1,fun l=>by simp [h],fun ob s e n hob=>by simp [h] at hob⟩
  · grind
  refine ⟨h1,fun l hl=>?_,fun ob2 s2 e2 n2 h hd2=>?_⟩
  · rw [ha'] at hl;simp only [Option.some.injEq] at hl;subst hl;cases hd'
  grind
 | win id k i m =>
  obtain ⟨h1,h2,h3⟩:=hr
  rcases he id rfl with h | ⟨l,l',hl,hl',_⟩ | ⟨oa,ob,s,e,n,n',ha,hd,ha',hd',hn,hw,_⟩
  · exact ⟨h1,fun l=>by simp [h],fun ob s e n hob=>by simp [h] at hob⟩
  · grind
  refine ⟨h1,fun l hl=>?_,fun ob2 s2 e2 n2 h hd2=>?_⟩
  · rw [ha'] at hl;simp only [Option.some.injEq] at hl;subst hl;cases hd'
  rw [ha'] at h
  simp only [Option.some.injEq] at h
  grind
 | row id i k =>
  obtain ⟨h1,h2⟩:=hr
  refine ⟨h1,fun e et es n m g pd hn=>?_⟩
  rcases he id rfl with h | ⟨l,l',hl,hl',_⟩ | ⟨oa,ob,s,e,n,n',ha,hd,ha',hd',_,_,hk⟩
  · grind
  · grind
  rw [ha'] at hn
  simp only [Option.some.injEq] at hn
  obtain ⟨e0,et0,n0,m0,g0,pd0,q1,q2,q3⟩:=hk _ _ _ _ _ _ _ hn
  grind
 | rptr id i k r j =>
  obtain ⟨h1,h2⟩:=hr
  refine ⟨h1,fun e et es n m g pd hn=>?_⟩
  rcases he id rfl with h | ⟨l,l',hl,hl',_⟩ | ⟨oa,ob,s,e,n,n',ha,hd,ha',hd',_,_,hk⟩
  · grind
  · grind
  rw [ha'] at hn
  simp only [Option.some.injEq] at hn
  obtain ⟨e0,et0,n0,m0,g0,pd0,q1,q2,q3⟩:=hk _ _ _ _ _ _ _ hn
  grind
 | pin id k ad cap =>
  obtain ⟨h1,h2,h3⟩:=hr
  rcases he id rfl with h | ⟨l,l',hl,hl',_⟩ | ⟨oa,ob,s,e,n,n',ha,hd,ha',hd',hn,hw,_⟩
  · exact ⟨h1,fun l=>by simp [h],fun ob s e n hob=>by simp [h] at hob⟩
  · grind
  refine ⟨h1,fun l hl=>?_,fun ob2 s2 e2 n2 h hd2=>?_⟩
  · rw [ha'] at hl;simp only [Option.some.injEq] at hl;subst hl;cases hd'
  grind
 | clo g k caps ih =>
  obtain ⟨cs,rfl,h2,h3⟩:=hr
  exact ⟨cs,rfl,h2,fun i hi=>by
   obtain ⟨x,hx,hrx⟩:=h3 i hi
   exact ⟨x,hx,ih i (fun id hm=>he id ⟨i,hi,hm⟩) hrx⟩⟩
theorem bh.evo (hi:Imm.le c.imm c'.imm):∀ {xs:List HV} {us:List Value},(∀ id,(∃ h ∈ xs,h.men id) → Evo c o c' o' id) → bh c o xs us → bh c' o' xs us
 | [],[],_,_=>trivial
 | x :: xs,u :: us,he,h=>⟨h.1.evo hi fun id hm=>he id ⟨x,by simp,hm⟩,bh.evo hi (fun id ⟨y,hy,hm⟩=>he id ⟨y,by simp [hy],hm⟩) h.2⟩
 | [],_ :: _,_,h=>h.elim
 | _ :: _,[],_,h=>h.elim
theorem dq.evo {x:HC} {u:Value} (hi:Imm.le c.imm c'.imm) (he:∀ id,x.men id → Evo c o c' o' id) (hr:dq c o x u):dq c' o' x u:=by
 cases x with
 | one h=>exact bq.evo hi he hr
 | agg l=>obtain ⟨us,e,hl⟩:=hr;exact ⟨us,e,bh.evo hi he hl⟩
theorem c6.evo (hi:Imm.le c.imm c'.imm):∀ {xs:List HC} {us:List Value},(∀ id,(∃ h ∈ xs,h.men id) → Evo c o c' o' id) → c6 c o xs us → c6 c' o' xs us
 | [],[],_,_=>trivial
 | x :: xs,u :: us,he,h=>⟨h.1.evo hi fun id hm=>he id ⟨x,by simp,hm⟩,c6.evo hi (fun id ⟨y,hy,hm⟩=>he id ⟨y,by simp [hy],hm⟩) h.2⟩
 | [],_ :: _,_,h=>h.elim
 | _ :: _,[],_,h=>h.elim
theorem ax.evo {x:HR} {u:Value} (hi:Imm.le c.imm c'.imm) (he:∀ id,x.men id → Evo c o c' o' id) (hr:ax c o x u):ax c' o' x u:=by
 cases x with
 | v x=>exact dq.evo hi he hr
 | tup l=>obtain ⟨us,e,hl⟩:=hr;exact ⟨us,e,c6.evo hi he hl⟩
end
def noB:Nat → Prop:=fun _=>False
def tv (b:Nat):Nat → Prop:=fun b'=>b' = b
def aiu (base:Nat) (c:Ctx) (w:World) (id:Nat) (kk:KK) (n:Nat) (f:MK → Option PV):Prop :=
 ∃ b es clock,c.own id = .map (some b) ∧ c.blk id = tv b ∧ (base ≤ b ∧ kk.has b) ∧ w.heap[b]? = some (.map es clock) ∧ Go.MapKept.Stamped es clock ∧ es.size ≤ n ∧ es.size ≤ maxLen ∧
  (∀ x ∈ es.toList,∃ key y,x.key = key.val ∧ f key = some y ∧ bc c.imm y x.val) ∧ ∀ key y,f key = some y → MK.ok kk key ∧ ∃ x ∈ es.toList,x.key = key.val
def ne:Obj → Bool
 | .cells ..=>true
 | .map ..=>true
 | .mapIter ..=>true
 | _=>false
def ah4 (base:Nat) (c:Ctx) (w:World) (id:Nat) (B:Nat → Option Obj):Prop:=(∀ b,c.blk id b → B b ≠ none) ∧ ∀ b x,B b = some x → c.blk id b ∧ base ≤ b ∧ w.heap[b]? = some x ∧ ne x = true
noncomputable def onB (bk:Nat → Prop) (w:World):Nat → Option Obj:=fun b=>by
 classical exact if bk b then w.heap[b]? else none
theorem rg {bk:Nat → Prop} {w:World} {b:Nat} (h:bk b):onB bk w b = w.heap[b]?:=by
 unfold onB
 exact if_pos h
theorem a4o {bk:Nat → Prop} {w w':World} (h:∀ b,bk b → w'.heap[b]? = w.heap[b]?):onB bk w' = onB bk w:=by
 funext b
 unfold onB
 grind
def ah6 (base:Nat) (c:Ctx) (w:World) (id:Nat) (R:Value → (Nat → Prop) → (Nat → Option Obj) → Prop):Prop :=
 (∀ b,c.blk id b → base ≤ b ∧ ∃ x,w.heap[b]? = some x ∧ ne x = true) ∧ (c.own id).oneCell' = true ∧ R (c.own id) (c.blk id) (onB (c.blk id) w)
def aje (base:Nat) (c:Ctx) (w:World) (id:Nat) (v:Value) (b:Nat) (x:Obj):Prop:=c.own id = v ∧ c.blk id = tv b ∧ base ≤ b ∧ w.heap[b]? = some x ∧ ne x = true
def c3:Value → Option Nat
 | .pointer (some a)=>some a.block
 | .slice (some a) _ _=>some a.block
 | _=>none
def er (v:Value):Nat → Prop:=fun b=>c3 v = some b
theorem a3s {v:Value} (h:c3 v = none):er v = noB:=by
 funext b
 simp [er,noB,h]
def ahc (base:Nat) (c:Ctx) (w:World) (id:Nat) (fr:Bool) (T e:TypeId) (l:List Value):Prop :=
 ∃ b p v,c.own id = .pointer (some ⟨b,0,none⟩) ∧ base ≤ b ∧ w.heap[b]? = some (.cells #[p,v] T (0,0)) ∧ (p = .pointer none ∨ p = .pointer (some ⟨b,0,none⟩)) ∧ w.ownsRow base e 1 v l.length l ∧ c3 v ≠ some b ∧
  (∀ k,c.blk id k ↔ k = b ∨ c3 v = some k) ∧ (fr = true → p = .pointer none ∧ v = .slice none 0 0)
def li:Option (Nat × Nat) → Nat
 | none=>0
 | some _=>1
def ci:Value → Option Nat
 | .slice (some a) _ cap=>if cap = 0 then none else some a.block
 | _=>none
theorem vh {e et:TypeId} {es n:Nat} {m:Nat → Nat} {g:Nat → Nat → Nat → PV} {pd:Option (Nat × Nat)}:(af.nest e et es n m g pd).dim = some (1,e,n + li pd):=by cases pd <;> rfl
structure jl (base:Nat) (c:Ctx) (o:aw) (w:World) (id:Nat) (e et:TypeId) (es n:Nat) (m:Nat → Nat) (g:Nat → Nat → Nat → PV) (pd:Option (Nat × Nat)):Prop where
 pos:0 < es
 len:n + li pd ≤ maxLen
 lens:∀ i,i < n → m i ≤ maxLen
 blks:∀ b,c.blk id b ↔ (ci (c.own id) = some b ∨ ∃ i,i < n ∧ ci (c.rows id i) = some b)
 apart:∀ i b,i < n → ci (c.rows id i) = some b → ci (c.own id) ≠ some b ∧ ∀ i',i' < n → ci (c.rows id i') = some b → i' = i
 row:∀ i,i < n → (m i = 0 ∧ ∃ a,c.rows id i = .slice a 0 0) ∨ ∃ ys,w.ownsRow base et es (c.rows id i) (m i) ys ∧ ∀ r j,r < m i → j < es → ∃ x,ys[r * es + j]? = some x ∧ bc c.imm (g i r j) x
 top:(n + li pd = 0 ∧ ∃ a,c.own id = .slice a 0 0) ∨ ∃ xs,w.ownsRow base e 1 (c.own id) (n + li pd) xs ∧ (∀ i,i < n → xs[i]? = some (c.rows id i)) ∧ ∀ p,pd = some p → ∃ x,xs[n]? = some x ∧ bq c o (.ref p.1 p.2) x
def d9 (base:Nat) (c:Ctx) (o:aw) (w:World) (id:Nat):af → Prop
 | .nest e et es n m g pd=>jl base c o w id e et es n m g pd
 | .mp kk n f=>aiu base c w id kk n f
 | .bld fr T e l=>ahc base c w id fr T e l
 | .ex _ v b x=>aje base c w id v b x
 | .bun B=>ah4 base c w id B
 | .opq _ _ _ R=>ah6 base c w id R
 | .box l=>∃ b C e,c.own id = .pointer (some ⟨b,0,none⟩) ∧ c.blk id = tv b ∧ base ≤ b ∧ w.heap[b]? = some (.cells C e (0,0)) ∧ bh c o l C.toList
 | .arr wr s e n f=>0 < s ∧ n ≤ maxLen ∧
  ((c.blk id = er (c.own id) ∧ ∃ xs,w.ownsRow base e s (c.own id) n xs ∧ ∀ i j,i < n → j < s → ∃ x,xs[i * s + j]? = some x ∧ bc c.imm (f i j) x) ∨
   ((wr = false ∨ n = 0) ∧ c.blk id = noB ∧ bc c.imm (.sl n s true f) (c.own id)))
 | .arrh s e n ms f=>0 < s ∧ n ≤ maxLen ∧ (∀ i j k,i < n → j < s → (f i j).men k → k ∈ ms) ∧
  ((c.blk id = er (c.own id) ∧ ∃ xs,w.ownsRow base e s (c.own id) n xs ∧ ∀ i j,i < n → j < s → ∃ x,xs[i * s + j]? = some x ∧ bq c o (f i j) x) ∨
   (n = 0 ∧ c.blk id = noB ∧ bc c.imm (.sl 0 s true fun _ _=>.any) (c.own id)))
theorem j0 {w w':World} {base e s:Nat} {v:Value} {n:Nat} {xs:List Value} (h:w.ownsRow base e s v n xs) (hb:∀ b,c3 v = some b → w'.heap[b]? = w.heap[b]?):w'.ownsRow base e s v n xs:=by
 refine ⟨h.1, ?_⟩
 rcases h.2 with h2 | ⟨g,cap,cur,hv,hg,hh,r⟩
 · exact .inl h2
 exact .inr ⟨g,cap,cur,hv,hg,(hb g (by rw [hv];rfl)).trans hh,r⟩
theorem fb {w:World} {base e s:Nat} {v:Value} {n:Nat} {xs:List Value} (h:w.ownsRow base e s v n xs):(n = 0 ∧ ∃ a,v = .slice a 0 0) ∨ ∃ b cap,v = .slice (some ⟨b,0,none⟩) n cap ∧ ci v = some b:=by
 rcases h.2 with ⟨h2,h3⟩ | ⟨g,cap,cur,hv,hg,hh,hc,r⟩
 · grind
 by_cases h0:cap = 0
 · grind
 refine .inr ⟨g,cap,hv, ?_⟩
 rw [hv]
 simp [ci,h0]
theorem d9.keep {base:Nat} {c c':Ctx} {o o':aw} {w w':World} {id:Nat} {ob:af} (h:d9 base c o w id ob) (hi:Imm.le c.imm c'.imm) (hw:c'.own id = c.own id) (hk:c'.blk id = c.blk id)
 (he:∀ k,ob.men k → Evo c o c' o' k) (hb:∀ b,c.blk id b → w'.heap[b]? = w.heap[b]?) (hrs:c'.rows id = c.rows id:=by first | rfl | assumption | simp):d9 base c' o' w' id ob:=by
 cases ob with
 | nest e et es n m g pd =>
  obtain ⟨q1,q2,q3,q4,q5,q6,q789⟩:=h
  refine ⟨q1,q2,q3,by rw [hw,hk,hrs];exact q4,by rw [hw,hrs];exact q5,fun i hi'=>?_, ?_⟩
  · rw [hrs]
    rcases q6 i hi' with r0 | ⟨ys,r1,r2⟩
    · exact .inl r0
    rcases fb r1 with r0 | ⟨b,cap,rv,rb⟩
    · exact .inl r0
    refine .inr ⟨ys,j0 r1 fun b' hbb=>?_,fun r j hr hj=>?_⟩
    · rw [rv] at hbb
      simp only [c3,Option.some.injEq] at hbb
      grind
    obtain ⟨x,hx,hxr⟩:=r2 r j hr hj
    exact ⟨x,hx,hxr.mono hi⟩
  rw [hw,hrs]
  rcases q789 with r0 | ⟨xs,q7,q8,q9⟩
  · exact .inl r0
  rcases fb q7 with r0 | ⟨b,cap,rv,rb⟩
  · exact .inl r0
  refine .inr ⟨xs,j0 q7 fun b' hbb=>?_,q8,fun p hp=>?_⟩
  · rw [rv] at hbb
    simp only [c3,Option.some.injEq] at hbb
    grind
  obtain ⟨x,hx,hxr⟩:=q9 p hp
  subst hp
  exact ⟨x,hx,hxr.evo hi fun k hkm=>he k hkm⟩
 | mp kk n f =>
  obtain ⟨b,es,clock,h1,h2,h3,h4,h5,h6,h7,h8,h9⟩:=h
  exact ⟨b,es,clock,hw.trans h1,hk.trans h2,h3,(hb b (by rw [h2];rfl)).trans h4,h5,h6,h7,fun x hx=>by
   obtain ⟨key,y,q1,q2,q3⟩:=h8 x hx
   exact ⟨key,y,q1,q2,q3.mono hi⟩,h9⟩
 | ex d v b' x =>
  obtain ⟨h1,h2,h3,h4,h5⟩:=h
  exact ⟨hw.trans h1,hk.trans h2,h3,(hb b' (by rw [h2];rfl)).trans h4,h5⟩
 | bun B =>
  obtain ⟨h1,h2⟩:=h
  exact ⟨fun b hbb=>h1 b (by rwa [hk] at hbb),fun b x hB=>by
   obtain ⟨q1,q2,q3,q4⟩:=h2 b x hB
   exact ⟨by rw [hk];exact q1,q2,(hb b q1).trans q3,q4⟩⟩
 | opq s e n R =>
  obtain ⟨h1,h2,h3⟩:=h
  refine ⟨fun b hbb=>?_,by rw [hw];exact h2, ?_⟩
  · simp_all
  rw [hw,hk,a4o hb]
  exact h3
 | bld fr T e l =>
  obtain ⟨b,p,v,h1,h2,h3,h4,h5,h6,h7,h8⟩:=h
  exact ⟨b,p,v,hw.trans h1,h2,(hb b ((h7 b).2 (.inl rfl))).trans h3,h4,j0 h5 fun k hk=>hb k ((h7 k).2 (.inr hk)),h6,(fun k=>by rw [hk];exact h7 k),h8⟩
 | box l =>
  obtain ⟨b,C,e,h1,h1',h2,h3,h4⟩:=h
  exact ⟨b,C,e,hw.trans h1,hk.trans h1',h2,(hb b (by rw [h1'];rfl)).trans h3,h4.evo hi he⟩
 | arr wr s e n f =>
  obtain ⟨h0,h1,h5⟩:=h
  refine ⟨h0,h1, ?_⟩
  rcases h5 with ⟨h6,xs,h2,h3⟩ | ⟨h6,h7,h8⟩
  · refine .inl ⟨by rw [hw,hk,h6],xs, ?_,fun i j hi' hj=>by
     obtain ⟨x,hx,hr⟩:=h3 i j hi' hj
     exact ⟨x,hx,hr.mono hi⟩⟩
    rw [hw]
    refine ⟨h2.1, ?_⟩
    rcases h2.2 with h2 | ⟨g,cap,cur,hv,hg,hh,r⟩
    · exact .inl h2
    exact .inr ⟨g,cap,cur,hv,hg,(hb g (by rw [h6,hv];rfl)).trans hh,r⟩
  exact .inr ⟨h6,hk.trans h7,by rw [hw];exact bc.mono hi h8⟩
 | arrh s e n ms f =>
  obtain ⟨h0,h1,h7,h8⟩:=h
  refine ⟨h0,h1,h7, ?_⟩
  rcases h8 with ⟨h6,xs,h2,h3⟩ | ⟨h6,h9,h8⟩
  · refine .inl ⟨by rw [hw,hk,h6],xs, ?_,fun i j hi' hj=>by
     obtain ⟨x,hx,hr⟩:=h3 i j hi' hj
     exact ⟨x,hx,hr.evo hi fun k hk=>he k (h7 i j k hi' hj hk)⟩⟩
    rw [hw]
    refine ⟨h2.1, ?_⟩
    rcases h2.2 with h2 | ⟨g,cap,cur,hv,hg,hh,r⟩
    · exact .inl h2
    exact .inr ⟨g,cap,cur,hv,hg,(hb g (by rw [h6,hv];rfl)).trans hh,r⟩
  exact .inr ⟨h6,hk.trans h9,by rw [hw];exact bc.mono hi h8⟩
theorem ov {w:World} {base e s:Nat} {v:Value} {n:Nat} {xs:List Value} (h:w.ownsRow base e s v n xs) {b:Nat} (hb:c3 v = some b):base ≤ b ∧ ∃ cs fr,w.heap[b]? = some (.cells cs e fr):=by
 rcases h.2 with ⟨h2,_⟩ | ⟨g,cap,cur,hv,hg,hh,r⟩
 · rw [h2] at hb;cases hb
 rw [hv] at hb
 simp only [c3,Option.some.injEq] at hb
 grind
theorem jl.block {base:Nat} {c:Ctx} {o:aw} {w:World} {id:Nat} {e et:TypeId} {es n:Nat} {m:Nat → Nat} {g:Nat → Nat → Nat → PV} {pd:Option (Nat × Nat)} (h:jl base c o w id e et es n m g pd) {b:Nat} (hb:c.blk id b):base ≤ b ∧ ∃ cs e fr,w.heap[b]? = some (.cells cs e fr):=by
 rcases (h.blks b).1 hb with h1 | ⟨i,hi,h1⟩
 · rcases h.top with ⟨_,a,h2⟩ | ⟨xs,h2,_⟩
   · rw [h2] at h1
     cases a <;> simp [ci] at h1
   have h3:c3 (c.own id) = some b:=by
    rcases fb h2 with ⟨_,a,rv⟩ | ⟨b',cap,rv,rb⟩
    · rw [rv] at h1
      cases a <;> simp [ci] at h1
    rw [rb] at h1
    cases h1
    rw [rv];rfl
   obtain ⟨r1,cs,fr,r2⟩:=ov h2 h3
   grind
 rcases h.row i hi with ⟨_,a,h2⟩ | ⟨ys,h2,_⟩
 · rw [h2] at h1
   cases a <;> simp [ci] at h1
 have h3:c3 (c.rows id i) = some b:=by
  rcases fb h2 with ⟨_,a,rv⟩ | ⟨b',cap,rv,rb⟩
  · rw [rv] at h1
    cases a <;> simp [ci] at h1
  rw [rb] at h1
  cases h1
  rw [rv];rfl
 obtain ⟨r1,cs,fr,r2⟩:=ov h2 h3
 grind
theorem d9.blk {base:Nat} {c:Ctx} {o:aw} {w:World} {id:Nat} {ob:af} (h:d9 base c o w id ob) {b:Nat} (hb:c.blk id b):base ≤ b ∧ b < w.heap.size:=by
 cases ob with
 | nest e et es n m g pd =>
  obtain ⟨h1,cs,e,fr,h2⟩:=jl.block h hb
  grind
 | mp kk n f =>
  obtain ⟨b',es,clock,h1,h2,h3,h4,_⟩:=h
  rw [h2] at hb
  have hb:b = b':=hb
  grind
 | ex d v b' x =>
  obtain ⟨h1,h2,h3,h4,_⟩:=h
  rw [h2] at hb
  have hb:b = b':=hb
  grind
 | opq s e n R =>
  obtain ⟨q1,x,q2,q3⟩:=h.1 b hb
  grind
 | bun B =>
  cases hB:B b with
  | none=>exact absurd hB (h.1 b hb)
  | some x =>
   obtain ⟨_,q2,q3,_⟩:=h.2 b x hB
   grind
 | bld fr T e l =>
  obtain ⟨b',p,v,h1,h2,h3,h4,h5,h6,h7,_⟩:=h
  rcases (h7 b).1 hb with rfl | hb
  · grind
  obtain ⟨q1,cs,fr,q2⟩:=ov h5 hb
  grind
 | box l =>
  obtain ⟨b',C,e,h1,h1',h2,h3,h4⟩:=h
  rw [h1'] at hb
  have hb:b = b':=hb
  grind
 | arr wr s e n f =>
  obtain ⟨h0,h1,h5⟩:=h
  rcases h5 with ⟨h6,xs,h2,h3⟩ | ⟨h6,h7,h8⟩
  · rw [h6] at hb
    rcases h2.2 with ⟨h2,_⟩ | ⟨g,cap,cur,hv,hg,hh,r⟩
    · rw [h2] at hb;cases hb
    rw [hv] at hb
    simp only [er,c3,Option.some.injEq] at hb
    grind
  rw [h7] at hb;exact hb.elim
 | arrh s e n ms f =>
  obtain ⟨h0,h1,h7,h8⟩:=h
  rcases h8 with ⟨h6,xs,h2,h3⟩ | ⟨h6,h9,h8⟩
  · rw [h6] at hb
    rcases h2.2 with ⟨h2,_⟩ | ⟨g,cap,cur,hv,hg,hh,r⟩
    · rw [h2] at hb;cases hb
    rw [hv] at hb
    simp only [er,c3,Option.some.injEq] at hb
    grind
  rw [h9] at hb;exact hb.elim
theorem d9.data {base:Nat} {c:Ctx} {o:aw} {w:World} {id:Nat} {ob:af} (h:d9 base c o w id ob) {b:Nat} (hb:c.blk id b):∃ x,w.heap[b]? = some x ∧ ne x = true:=by
 cases ob with
 | nest e et es n m g pd =>
  obtain ⟨h1,cs,e,fr,h2⟩:=jl.block h hb
  exact ⟨_,h2,rfl⟩
 | mp kk n f =>
  obtain ⟨b',es,clock,h1,h2,h3,h4,_⟩:=h
  rw [h2] at hb
  have hb:b = b':=hb
  subst hb
  exact ⟨_,h4,rfl⟩
 | ex d v b' x =>
  obtain ⟨h1,h2,h3,h4,h5⟩:=h
  rw [h2] at hb
  have hb:b = b':=hb
  grind
 | opq s e n R =>
  obtain ⟨q1,x,q2,q3⟩:=h.1 b hb
  grind
 | bun B =>
  cases hB:B b with
  | none=>exact absurd hB (h.1 b hb)
  | some x =>
   obtain ⟨_,_,q3,q4⟩:=h.2 b x hB
   grind
 | bld fr T e l =>
  obtain ⟨b',p,v,h1,h2,h3,h4,h5,h6,h7,_⟩:=h
  rcases (h7 b).1 hb with rfl | hb
  · exact ⟨_,h3,rfl⟩
  obtain ⟨q1,cs,fr,q2⟩:=ov h5 hb
  exact ⟨_,q2,rfl⟩
 | box l =>
  obtain ⟨b',C,e,h1,h1',h2,h3,h4⟩:=h
  rw [h1'] at hb
  have hb:b = b':=hb
  subst hb
  exact ⟨_,h3,rfl⟩
 | arr wr s e n f =>
  obtain ⟨h0,h1,h5⟩:=h
  rcases h5 with ⟨h6,xs,h2,h3⟩ | ⟨h6,h7,h8⟩
  · rw [h6] at hb
    rcases h2.2 with ⟨h2,_⟩ | ⟨g,cap,cur,hv,hg,hh,r⟩
    · rw [h2] at hb;cases hb
    rw [hv] at hb
    simp only [er,c3,Option.some.injEq] at hb
    subst hb
    exact ⟨_,hh,rfl⟩
  rw [h7] at hb;exact hb.elim
 | arrh s e n ms f =>
  obtain ⟨h0,h1,h7,h8⟩:=h
  rcases h8 with ⟨h6,xs,h2,h3⟩ | ⟨h6,h9,h8⟩
  · rw [h6] at hb
    rcases h2.2 with ⟨h2,_⟩ | ⟨g,cap,cur,hv,hg,hh,r⟩
    · rw [h2] at hb;cases hb
    rw [hv] at hb
    simp only [er,c3,Option.some.injEq] at hb
    subst hb
    exact ⟨_,hh,rfl⟩
  rw [h9] at hb;exact hb.elim
def lh (w0:World) (imm frm:Imm) (l:List Deferred) (w:World):Prop :=
 l.Pairwise (· ≠ ·) ∧ ∀ d ∈ l,∃ D,d = { target:=.collected D,args:=#[] } ∧ w.heap[D]? = some (.deferred (some [])) ∧ imm D = none ∧ frm D = none ∧ w0.heap.size ≤ D
theorem lh.nil (w0:World) (imm frm:Imm) (w:World):lh w0 imm frm [] w:=⟨List.Pairwise.nil,fun _ h=>by cases h⟩
theorem lh.keep {w0:World} {imm imm' frm:Imm} {l:List Deferred} {w w':World} (h:lh w0 imm frm l w) (hb:∀ D:Nat,w.heap[D]? = some (.deferred (some [])) → w'.heap[D]? = w.heap[D]?)
 (hi:∀ D:Nat,imm D = none → w.heap[D]? = some (.deferred (some [])) → imm' D = none):lh w0 imm' frm l w' :=
 ⟨h.1,fun d hd=>by
  obtain ⟨D,h1,h2,h3,h4⟩:=h.2 d hd
  exact ⟨D,h1,(hb D h2).trans h2,hi D h3 h2,h4⟩⟩
structure ak (w0:World) (nt:Nat) (c:Ctx) (s:S) (a:Act) (w:World):Prop where
 defers:lh w0 c.imm c.frm a.defers w
 size:a.tmps.size = nt
 below:Below 0 w0 w
 tmps:∀ d x,s.t d = some x → ax c s.o x (a.tmps.getD d undef)
 objs:∀ id ob,s.o id = some ob → d9 0 c s.o w id ob
 inj:∀ id id' ob ob' b,s.o id = some ob → s.o id' = some ob' → c.blk id b → c.blk id' b → id = id'
 imm:∀ b ob,c.imm b = some ob → w.heap[b]? = some ob
 sep:∀ id ob b,s.o id = some ob → c.blk id b → c.imm b = none
 was:∀ b,c.frm b ≠ none → c.imm b = c.old.1 b
 frm:∀ b ob,c.frm b = some ob → w.heap[b]? = some ob
 fsep:∀ id ob b,s.o id = some ob → c.blk id b → c.frm b = none
 fixed:∀ id,1000 ≤ id → Evo c.start c.old.2.2.2.1 c s.o id
def Rel (w0:World) (m0:Old) (nt:Nat) (s:S) (a:Act) (w:World):Prop:=∃ c,c.old = m0 ∧ ak w0 nt c s a w
def S.put (s:S) (d:Nat) (x:Option HR):S:={ s with t:=fun k=>if k = d then x else s.t k }
def S.putD (s:S) (d:Option Tmp) (x:Option HR):S:=match d with | some d=>s.put d x | none=>s
def S.setO (s:S) (id:Nat) (ob:Option af):S:={ s with o:=fun k=>if k = id then ob else s.o k }
section
variable {w0:World} {nt:Nat} {c:Ctx} {s:S} {a:Act} {w:World}
theorem ak.put (h:ak w0 nt c s a w) (d:Nat) (hd:d < nt) (x:Option HR) (v:Value) (hx:∀ y,x = some y → ax c s.o y v):ak w0 nt c (s.put d x) (a.put (some d) v) w:=by
 refine ⟨h.defers,by simp [Act.put,h.size],h.below,fun k y hy=>?_,h.objs,h.inj,h.imm,h.sep,h.was,h.frm,h.fsep,h.fixed⟩
 simp only [S.put] at hy
 by_cases hk:k = d
 · subst hk
   rw [if_pos rfl] at hy
   have hs:k < a.tmps.size:=by rw [h.size];exact hd
   have:(a.put (some k) v).tmps.getD k undef = v:=by simp [Act.put,hs]
   rw [this]
   exact hx y hy
 rw [if_neg hk] at hy
 have:(a.put (some d) v).tmps.getD k undef = a.tmps.getD k undef:=by
  simp [Act.put,Array.getElem?_setIfInBounds_ne (Ne.symm hk)]
 rw [this]
 exact h.tmps k y hy
theorem ak.putD (h:ak w0 nt c s a w) (d:Option Tmp) (hd:∀ k,d = some k → k < nt) (x:Option HR) (v:Value) (hx:∀ y,x = some y → ax c s.o y v):ak w0 nt c (s.putD d x) (a.put d v) w:=by
 cases d with
 | none=>exact h
 | some d=>exact h.put d (hd d rfl) x v hx
theorem ak.drew (h:ak w0 nt c s a w):ak w0 nt c s a { w with drawn:=w.drawn + 1 } :=
 ⟨h.defers,h.size,h.below.drew,h.tmps,fun id ob ho=>(h.objs id ob ho).keep (Imm.le.refl _) rfl rfl (fun _ _=>Evo.refl _ _ _) (fun _ _=>rfl),h.inj,h.imm,h.sep,h.was,h.frm,h.fsep,h.fixed⟩
theorem ak.fresh (h:ak w0 nt c s a w) (id:Nat) (hm:NM s id) (hn:s.o id = none) (ob:af) (w':World) (v:Value) (bk:Nat → Prop)
 (hg:Grw w w' none) (hv:∀ b,bk b → w.heap.size ≤ b)
 (hk:d9 0 { old:=c.old,imm:=c.imm,tab:=c.tab,own:=fun k=>if k = id then v else c.own k,blk:=fun k=>if k = id then bk else c.blk k,rows:=c.rows } (s.setO id (some ob)).o w' id ob) :
 ak w0 nt { old:=c.old,imm:=c.imm,tab:=c.tab,own:=fun k=>if k = id then v else c.own k,blk:=fun k=>if k = id then bk else c.blk k,rows:=c.rows } (s.setO id (some ob)) a w':=by
 have _:=hn
 have ho:∀ k,k ≠ id → (s.setO id (some ob)).o k = s.o k:=fun k hk=>by simp [S.setO,hk]
 have hevo:∀ k,k ≠ id → Evo c s.o { old:=c.old,imm:=c.imm,tab:=c.tab,own:=fun k=>if k = id then v else c.own k,blk:=fun k=>if k = id then bk else c.blk k,rows:=c.rows } (s.setO id (some ob)).o k:=fun k hk=>Evo.of_same (ho k hk) (by simp [hk])
 refine ⟨h.defers.keep (fun D hD=>hg.base.block D (Array.getElem?_eq_some_iff.1 hD).1 (fun e=>by cases e)) (fun D hD _=>hD),h.size,h.below.grown hg (Nat.zero_le _) (fun _ e=>by cases e),fun d x hx=>?_,fun k obk hobk=>?_,fun i i' obi obi' b hi hi' hb hb'=>?_,fun b obb hb=>?_,fun k obk b hobk hb=>?_,h.was,fun b obb hb=>?_,fun k obk b hobk hb=>?_,fun k hk=>?_⟩
 · exact (h.tmps d x hx).evo (Imm.le.refl c.imm) fun k hkm=>hevo k (by rintro rfl;exact hm.1 d x hx hkm)
 · by_cases hki:k = id
   · subst hki
     have:obk = ob:=by simpa [S.setO] using hobk.symm
     grind
   rw [ho k hki] at hobk
   refine (h.objs k obk hobk).keep (Imm.le.refl c.imm) (by simp [hki]) (by simp [hki]) (fun j hj=>hevo j (by rintro rfl;exact hm.2.1 k obk hobk hj)) fun b hb=>?_
   exact hg.base.block b ((h.objs k obk hobk).blk hb).2 (fun e=>by cases e)
 · have hold:∀ k obk b,k ≠ id → (s.setO id (some ob)).o k = some obk → c.blk k b → bk b → False:=fun k obk b hk hok hbk hbv=>by
    rw [ho k hk] at hok
    have:=((h.objs k obk hok).blk hbk).2
    grind
   by_cases h1:i = id
   · grind
   by_cases h2:i' = id
   · grind
   rw [ho i h1] at hi
   rw [ho i' h2] at hi'
   simp only [h1,h2,if_false] at hb hb'
   exact h.inj i i' obi obi' b hi hi' hb hb'
 · have hb':=h.imm b obb hb
   rw [hg.base.block b (Array.getElem?_eq_some_iff.1 hb').1 (fun e=>by cases e)]
   exact hb'
 · by_cases hki:k = id
   · subst hki
     simp only [if_true] at hb
     have:=hv b hb
     cases hi:c.imm b with
     | none=>rfl
     | some obb =>
      have:=(Array.getElem?_eq_some_iff.1 (h.imm b obb hi)).1
      omega
   rw [ho k hki] at hobk
   simp only [hki,if_false] at hb
   exact h.sep k obk b hobk hb
 · have hb':=h.frm b obb hb
   rw [hg.base.block b (Array.getElem?_eq_some_iff.1 hb').1 (fun e=>by cases e)]
   exact hb'
 · by_cases hki:k = id
   · subst hki
     simp only [if_true] at hb
     have:=hv b hb
     cases hi:c.frm b with
     | none=>rfl
     | some obb =>
      have:=(Array.getElem?_eq_some_iff.1 (h.frm b obb hi)).1
      omega
   rw [ho k hki] at hobk
   simp only [hki,if_false] at hb
   exact h.fsep k obk b hobk hb
 exact (h.fixed k hk).trans (hevo k (by have:=hm.2.2;omega))
theorem ak.write (h:ak w0 nt c s a w) (id:Nat) (ob:af) (hn:s.o id = some ob) (ob':af) (w':World) (v':Value) (bk:Nat → Prop) (row:Option Nat)
 (hg:Grw w w' row) (hrow:∀ b,row = some b → c.blk id b)
 (hev:Evo c s.o { old:=c.old,imm:=c.imm,tab:=c.tab,own:=fun k=>if k = id then v' else c.own k,blk:=fun k=>if k = id then bk else c.blk k,rows:=c.rows } (s.setO id (some ob')).o id)
 (hblk:∀ b,bk b → c.blk id b ∨ w.heap.size ≤ b)
 (hk:d9 0 { old:=c.old,imm:=c.imm,tab:=c.tab,own:=fun k=>if k = id then v' else c.own k,blk:=fun k=>if k = id then bk else c.blk k,rows:=c.rows } (s.setO id (some ob')).o w' id ob') :
 ak w0 nt { old:=c.old,imm:=c.imm,tab:=c.tab,own:=fun k=>if k = id then v' else c.own k,blk:=fun k=>if k = id then bk else c.blk k,rows:=c.rows } (s.setO id (some ob')) a w':=by
 have ho:∀ k,k ≠ id → (s.setO id (some ob')).o k = s.o k:=fun k hk=>by simp [S.setO,hk]
 have hevo:∀ k,Evo c s.o { old:=c.old,imm:=c.imm,tab:=c.tab,own:=fun k=>if k = id then v' else c.own k,blk:=fun k=>if k = id then bk else c.blk k,rows:=c.rows } (s.setO id (some ob')).o k:=fun k=>by
  by_cases hki:k = id
  · grind
  exact Evo.of_same (ho k hki) (by simp [hki])
 refine ⟨h.defers.keep (fun D hD=>hg.base.block D (Array.getElem?_eq_some_iff.1 hD).1 (fun e=>by
  obtain ⟨x1,hc,hdt⟩:=(h.objs id ob hn).data (hrow _ e.symm)
  rw [hD] at hc
  cases hc
  cases hdt)) (fun D hD _=>hD),h.size,h.below.grown hg (Nat.zero_le _) (fun _ _=>Nat.zero_le _),fun d x hx=>?_,fun k obk hobk=>?_,fun i i' obi obi' b hi hi' hb hb'=>?_,fun b obb hb=>?_,fun k obk b hobk hb=>?_,h.was,fun b obb hb=>?_,fun k obk b hobk hb=>?_,fun k hk=>?_⟩
 · exact (h.tmps d x hx).evo (Imm.le.refl c.imm) fun k _=>hevo k
 · by_cases hki:k = id
   · subst hki
     have:obk = ob':=by simpa [S.setO] using hobk.symm
     grind
   rw [ho k hki] at hobk
   refine (h.objs k obk hobk).keep (Imm.le.refl c.imm) (by simp [hki]) (by simp [hki]) (fun j _=>hevo j) fun b hb=>?_
   refine hg.base.block b ((h.objs k obk hobk).blk hb).2 fun e=>hki (h.inj k id obk ob b hobk hn hb (hrow _ e.symm))
 · have hold:∀ k obk b,k ≠ id → (s.setO id (some ob')).o k = some obk → c.blk k b → bk b → False:=fun k obk b hk hok hbk hbv=>by
    rw [ho k hk] at hok
    rcases hblk b hbv with h' | h'
    · exact hk (h.inj k id obk ob b hok hn hbk h')
    have:=((h.objs k obk hok).blk hbk).2
    omega
   by_cases h1:i = id
   · grind
   by_cases h2:i' = id
   · grind
   rw [ho i h1] at hi
   rw [ho i' h2] at hi'
   simp only [h1,h2,if_false] at hb hb'
   exact h.inj i i' obi obi' b hi hi' hb hb'
 · have hb':=h.imm b obb hb
   rw [hg.base.block b (Array.getElem?_eq_some_iff.1 hb').1 fun e=>by
    have:=h.sep id ob b hn (hrow _ e.symm)
    rw [this] at hb
    cases hb]
   exact hb'
 · by_cases hki:k = id
   · subst hki
     simp only [if_true] at hb
     rcases hblk b hb with h' | h'
     · exact h.sep k ob b hn h'
     cases hi:c.imm b with
     | none=>rfl
     | some obb =>
      have:=(Array.getElem?_eq_some_iff.1 (h.imm b obb hi)).1
      omega
   rw [ho k hki] at hobk
   simp only [hki,if_false] at hb
   exact h.sep k obk b hobk hb
 · have hb':=h.frm b obb hb
   rw [hg.base.block b (Array.getElem?_eq_some_iff.1 hb').1 fun e=>by
    have:=h.fsep id ob b hn (hrow _ e.symm)
    rw [this] at hb
    cases hb]
   exact hb'
 · by_cases hki:k = id
   · subst hki
     simp only [if_true] at hb
     rcases hblk b hb with h' | h'
     · exact h.fsep k ob b hn h'
     cases hi:c.frm b with
     | none=>rfl
     | some obb =>
      have:=(Array.getElem?_eq_some_iff.1 (h.frm b obb hi)).1
      omega
   rw [ho k hki] at hobk
   simp only [hki,if_false] at hb
   exact h.fsep k obk b hobk hb
 exact (h.fixed k hk).trans (hevo k)
theorem a9v (h:ak w0 nt c s a w) {imm':Imm} (h1:∀ b,b < w.heap.size → imm' b = c.imm b):Imm.le c.imm imm':=fun b ob hb'=>by
 rw [h1 b (Array.getElem?_eq_some_iff.1 (h.imm b ob hb')).1]
 exact hb'
theorem aa7 (h:ak w0 nt c s a w) {imm':Imm} (h1:∀ b,b < w.heap.size → imm' b = c.imm b):mi imm':=c.tab.mono (a9v h h1)
theorem ak.later (h:ak w0 nt c s a w) (w':World) (hb:Below w.heap.size w w') (imm':Imm) (h1:∀ b,b < w.heap.size → imm' b = c.imm b) (h2:∀ b ob,imm' b = some ob → w'.heap[b]? = some ob) :
 ak w0 nt { old:=c.old,imm:=imm',tab:=aa7 h h1,own:=c.own,blk:=c.blk,rows:=c.rows } s a w':=by
 have hle:Imm.le c.imm imm':=fun b ob hb'=>by
  rw [h1 b (Array.getElem?_eq_some_iff.1 (h.imm b ob hb')).1]
  exact hb'
 refine ⟨h.defers.keep (fun D hD=>hb.block D (Array.getElem?_eq_some_iff.1 hD).1) (fun D hD hb'=>by
  show imm' D = none
  rw [h1 D (Array.getElem?_eq_some_iff.1 hb').1];exact hD),h.size,h.below.trans (hb.mono (Nat.zero_le _)),fun d x hx=>(h.tmps d x hx).evo hle fun k _=>Evo.of_same rfl rfl,fun k ob hob=>?_,h.inj,h2,fun k ob b hob hbk=>?_,fun b hb'=>?_,fun b ob hbo=>?_,h.fsep,h.fixed⟩
 · exact (h.objs k ob hob).keep hle rfl rfl (fun j _=>Evo.of_same rfl rfl) fun b hbk=>hb.block b ((h.objs k ob hob).blk hbk).2
 · show imm' b = none
   rw [h1 b ((h.objs k ob hob).blk hbk).2]
   exact h.sep k ob b hob hbk
 · show imm' b = c.old.1 b
   have hb':c.frm b ≠ none:=hb'
   cases hf:c.frm b with
   | none=>exact absurd hf hb'
   | some ob=>rw [h1 b (Array.getElem?_eq_some_iff.1 (h.frm b ob hf)).1];exact h.was b hb'
 have hbo:c.frm b = some ob:=hbo
 rw [hb.block b (Array.getElem?_eq_some_iff.1 (h.frm b ob hbo)).1]
 exact h.frm b ob hbo
theorem ak.weaken (h:ak w0 nt c s a w) (s':S) (ht:∀ d x,s'.t d = some x → s.t d = some x) (ho:∀ id ob,s'.o id = some ob → s.o id = some ob):ak w0 nt c s' a w:=by
 have hevo:∀ k,Evo c s.o c s'.o k:=fun k=>by
  cases hk:s'.o k with
  | none=>exact .inl hk
  | some ob=>exact Evo.of_same (hk.trans (ho k ob hk).symm) rfl
 exact ⟨h.defers,h.size,h.below,fun d x hx=>(h.tmps d x (ht d x hx)).evo (Imm.le.refl _) fun k _=>hevo k,
  fun k ob hob=>(h.objs k ob (ho k ob hob)).keep (Imm.le.refl _) rfl rfl (fun j _=>hevo j) (fun _ _=>rfl),
  fun i i' obi obi' b hi hi'=>h.inj i i' obi obi' b (ho _ _ hi) (ho _ _ hi'),h.imm,fun k ob b hob=>h.sep k ob b (ho k ob hob),h.was,h.frm,fun k ob b hob=>h.fsep k ob b (ho k ob hob),fun k hk=>(h.fixed k hk).trans (hevo k)⟩
end
end
end Go.Hx

/- A part of the proof: Hx16 Hx17 Hx18. -/
import Derived.Test.YtdcdbghdgjlhhaaGreatOx11
set_option linter.all false
namespace Go.Hx
section
open Go.RowKit
section
variable {ro:Option Nat} {P:Program} {E:Env} {nt:Nat} {st:HSt} {Q:Exit → HSt → Prop} {w0:World} {m0:Old} {a:Act} {w:World}
theorem yw (st:HSt) (id:Nat) (ob:af):(HSt.den ⟨st.t,(id,some ob) :: st.o⟩) = st.den.setO id (some ob):=by
 unfold HSt.den S.setO
 simp [be]
def agd {ι:Type} (I:ι → HSt) (p:ι → Prop) (Q:Exit → HSt → Prop):Exit → HSt → Prop
 | .normal,st=>∃ i,p i ∧ Sub (I i) st
 | e,st=>Q e st
theorem yz {ι:Type} {x y:Code} (I:ι → HSt) (p:ι → Prop) (h1:HW (ro:=ro) P nt x st (agd I p Q)) (h2:∀ i,p i → HW (ro:=ro) P nt y (I i) Q):HW (ro:=ro) P nt (.seq x y) st Q:=by
 refine i5 (aew h1 fun e st' h=>?_)
 cases e <;> try exact h
 obtain ⟨i,hp,hs⟩:=h
 exact abj (I i) hs (h2 i hp)
theorem hw_exact' {c:Code} (d:Nat) {s:Nat} {cl:Bool} {f:Nat → Nat → PV} (hd:bs st.t d = some (cf (.sl 0 s cl f))) (h:∀ ad cap,cap ≤ maxLen → HW (ro:=ro) P nt c ⟨(d,some (cf (.raw (.slice ad 0 cap)))) :: st.t,st.o⟩ Q):HW (ro:=ro) P nt c st Q:=fun w0 m0 a w hr=>by
 obtain ⟨cc,hold,hrr⟩:=hr
 obtain ⟨ad,cap,e1,_,hcap,_⟩:=hrr.tmps d _ hd
 refine h ad cap hcap w0 m0 a w ⟨cc,hold,hrr.defers,hrr.size,hrr.below,fun k x hx=>?_,hrr.objs,hrr.inj,hrr.imm,hrr.sep,hrr.was,hrr.frm,hrr.fsep,hrr.fixed⟩
 simp only [HSt.den] at hx
 rw [be] at hx
 dsimp only at hx
 split at hx
 · rename_i hk
   subst hk
   simp only [Option.some.injEq] at hx
   subst hx
   exact ⟨e1,rfl⟩
 exact hrr.tmps k x hx
theorem o9 {c:Code} (d id:Nat) (wr:Bool) {n s':Nat} {f':Nat → Nat → PV} (s:Nat) (e:TypeId) (f:Nat → Nat → PV) (hs:0 < s) (hd:bs st.t d = some (cf (.sl n s' true f'))) (hco:CoP (.sl n s' true f') (.sl n s true f)) (hwr:wr = false ∨ n = 0) (hn:nq id st = true)
 (h:HW (ro:=ro) P nt c ⟨(d,some (.v (.one (.ref id n)))) :: st.t,(id,some (.arr wr s e n f)) :: st.o⟩ Q):HW (ro:=ro) P nt c st Q:=by
 obtain ⟨hnm,hno⟩:=jb hn
 refine a67 ⟨st.t,(id,some (.arr wr s e n f)) :: st.o⟩ d (.v (.one (.ref id n))) (fun w0 m0 a w hr=>?_) h
 obtain ⟨cc,hold,hrr⟩:=hr
 have hx:bc cc.imm (.sl n s true f) (a.tmps.getD d undef):=hco _ _ (hrr.tmps d _ hd)
 have hnm':n ≤ maxLen:=by obtain ⟨ad,cap,_,q1,q2,_⟩:=hx;omega
 have hfresh:=hrr.fresh id hnm hno (.arr wr s e n f) w (a.tmps.getD d undef) noB (Grw.refl w none) (fun b hb=>hb.elim)
  ⟨hs,hnm', .inr ⟨hwr,by simp,by simpa using hx⟩⟩
 refine ⟨_, ?_,by rw [yw];exact hfresh, ?_⟩
 · exact hold
 rw [yw]
 refine ⟨bc.oneCell hx,fun l=>by simp [S.setO],fun ob1 s1 e1 n1 ho hd1=>?_⟩
 simp only [S.setO,if_true,Option.some.injEq] at ho
 subst ho
 simp only [af.dim,Option.some.injEq,Prod.mk.injEq] at hd1
 obtain ⟨rfl,rfl,rfl⟩:=hd1
 exact ⟨Nat.le_refl _,fun _=>by simp⟩
end
def swp (x y k:Nat):Nat:=bif Nat.beq k x then y else bif Nat.beq k y then x else k
theorem ags (x y k:Nat):swp x y k = if k = x then y else if k = y then x else k:=by
 unfold swp
 by_cases h1:k = x
 · simp [h1]
 have e1:Nat.beq k x = false:=by rw [Bool.eq_false_iff];exact fun hb=>h1 (Nat.eq_of_beq_eq_true hb)
 by_cases h2:k = y
 · simp [h2]
 have e2:Nat.beq k y = false:=by rw [Bool.eq_false_iff];exact fun hb=>h2 (Nat.eq_of_beq_eq_true hb)
 simp [e1,e2,h1,h2]
theorem a7s (x y k:Nat):swp x y (swp x y k) = k:=by
 simp only [ags]
 by_cases h1:k = x
 · subst h1
   by_cases h2:y = k
   · simp [h2]
   simp [h2]
 by_cases h2:k = y
 · subst h2;simp [h1]
 simp [h1,h2]
def HV.ren (r:Nat → Nat):HV → HV
 | .p x=>.p x
 | .ref id n=>.ref (r id) n
 | .ptr id off=>.ptr (r id) off
 | .eptr id n i j=>.eptr (r id) n i j
 | .win id n i m=>.win (r id) n i m
 | .clo g k caps=>.clo g k fun i=>(caps i).ren r
 | .row id i k=>.row (r id) i k
 | .rptr id i k a j=>.rptr (r id) i k a j
 | .pin id n ad cap=>.pin (r id) n ad cap
def a97 (r:Nat → Nat):List HV → List HV
 | []=>[]
 | x :: l=>x.ren r :: a97 r l
def HC.ren (r:Nat → Nat):HC → HC
 | .one h=>.one (h.ren r)
 | .agg l=>.agg (a97 r l)
def a13 (r:Nat → Nat):List HC → List HC
 | []=>[]
 | x :: l=>x.ren r :: a13 r l
def HR.ren (r:Nat → Nat):HR → HR
 | .v x=>.v (x.ren r)
 | .tup l=>.tup (a13 r l)
def renN (r:Nat → Nat):List Nat → List Nat
 | []=>[]
 | x :: l=>r x :: renN r l
def af.ren (r:Nat → Nat):af → af
 | .mp kk n f=>.mp kk n f
 | .bld fr T e l=>.bld fr T e l
 | .ex d v b x=>.ex d v b x
 | .bun B=>.bun B
 | .opq s e n R=>.opq s e n R
 | .box l=>.box (a97 r l)
 | .arr wr s e n f=>.arr wr s e n f
 | .arrh s e n ms f=>.arrh s e n (renN r ms) fun i j=>(f i j).ren r
 | .nest e et es n m g none=>.nest e et es n m g none
 | .nest e et es n m g (some p)=>.nest e et es n m g (some (r p.1,p.2))
theorem af.ren_dim (r:Nat → Nat) (x:af):(x.ren r).dim = x.dim:=by
 cases x with
 | nest e et es n m g pd=>cases pd <;> rfl
 | _=>rfl
def gp (r:Nat → Nat):List (Nat × af) → List (Nat × af)
 | []=>[]
 | (id,ob) :: l=>(r id,ob.ren r) :: gp r l
def Ctx.ren (c:Ctx) (r:Nat → Nat):Ctx:={ old:=c.old,imm:=c.imm,tab:=c.tab,own:=fun k=>c.own (r k),blk:=fun k=>c.blk (r k),rows:=fun k=>c.rows (r k) }
section
variable {r:Nat → Nat} {c:Ctx} {o o':aw}
theorem md (hr:∀ k,r (r k) = k):∀ (l:List (Nat × af)) (k:Nat),lk (gp r l) (r k) = (lk l k).map (af.ren r)
 | [],k=>rfl
 | (e,x) :: l,k=>by
  simp only [gp,lk]
  by_cases h:e = k
  · subst h;simp
  have e1:Nat.beq e k = false:=by rw [Bool.eq_false_iff];exact fun hb=>h (Nat.eq_of_beq_eq_true hb)
  have e2:Nat.beq (r e) (r k) = false:=by
   rw [Bool.eq_false_iff]
   intro hb
   have:=congrArg r (Nat.eq_of_beq_eq_true hb)
   rw [hr,hr] at this
   exact h this
  rw [e1,e2]
  simpa using md hr l k
theorem HV.ren_men {r:Nat → Nat} (hr:∀ k,r (r k) = k) {h:HV} {k:Nat}:(h.ren r).men k ↔ h.men (r k):=by
 have key:∀ id,k = r id ↔ r k = id:=fun id=>⟨fun e=>by rw [e,hr],fun e=>by rw [← e,hr]⟩
 induction h with
 | clo g n caps ih=>exact exists_congr fun i=>and_congr Iff.rfl (ih i)
 | _=>simp only [HV.ren,HV.men] <;> exact key _
theorem a0f {r:Nat → Nat} (hr:∀ k,r (r k) = k):∀ {l:List Nat} {k:Nat},k ∈ renN r l ↔ r k ∈ l
 | [],k=>by simp [renN]
 | x :: l,k=>by
  simp only [renN,List.mem_cons,a0f hr (l:=l)]
  exact or_congr ⟨fun e=>by rw [e,hr],fun e=>by rw [← e,hr]⟩ Iff.rfl
theorem bq.ren (ho:∀ k,o' (r k) = (o k).map (af.ren r)) {h:HV} {u:Value}:bq c o' (h.ren r) u ↔ bq (c.ren r) o h u:=by
 have hbox:∀ id,(∀ l,o' (r id) ≠ some (.box l)) ↔ ∀ l,o id ≠ some (.box l):=fun id=>by
  rw [ho]
  cases hid:o id with
  | none=>simp
  | some ob =>
   cases ob with
   | nest e et es n m g pd=>cases pd <;> simp [af.ren]
   | _=>simp [af.ren]
 have hnest:∀ id (Q:TypeId → TypeId → Nat → Nat → (Nat → Nat) → (Nat → Nat → Nat → PV) → Prop),(∀ e et es n m g pd,o' (r id) = some (.nest e et es n m g pd) → Q e et es n m g) ↔ ∀ e et es n m g pd,o id = some (.nest e et es n m g pd) → Q e et es n m g:=fun id Q=>by
  rw [ho]
  constructor
  · intro h e et es n m g pd hid
    rw [hid] at h
    cases pd with
    | none=>exact h _ _ _ _ _ _ none rfl
    | some p=>exact h _ _ _ _ _ _ (some (r p.1,p.2)) rfl
  intro h e et es n m g pd hid
  cases ho1:o id with
  | none=>rw [ho1] at hid;cases hid
  | some ob =>
   rw [ho1] at hid h
   cases ob with
   | nest e0 et0 es0 n0 m0 g0 pd0 =>
    cases pd0 with
    | none=>simp only [Option.map_some,af.ren,Option.some.injEq,af.nest.injEq] at hid;obtain ⟨rfl,rfl,rfl,rfl,rfl,rfl,_⟩:=hid;exact h _ _ _ _ _ _ _ rfl
    | some p=>simp only [Option.map_some,af.ren,Option.some.injEq,af.nest.injEq] at hid;obtain ⟨rfl,rfl,rfl,rfl,rfl,rfl,_⟩:=hid;exact h _ _ _ _ _ _ _ rfl
   | _=>simp [af.ren] at hid
 have hdim:∀ id (Q:Nat → TypeId → Nat → Prop),(∀ ob s e n,o' (r id) = some ob → ob.dim = some (s,e,n) → Q s e n) ↔ ∀ ob s e n,o id = some ob → ob.dim = some (s,e,n) → Q s e n:=fun id Q=>by
  rw [ho]
  cases hid:o id with
  | none=>simp
  | some ob =>
   constructor
   · rintro g ob1 s e n h1 h2
     simp only [Option.some.injEq] at h1
     subst h1
     exact g _ s e n rfl (by rw [af.ren_dim];exact h2)
   rintro g ob1 s e n h1 h2
   simp only [Option.map_some,Option.some.injEq] at h1
   subst h1
   exact g _ s e n rfl (by rw [af.ren_dim] at h2;exact h2)
 induction h generalizing u with
 | p x=>exact Iff.rfl
 | clo g k caps ih =>
  simp only [HV.ren,bq]
  exact exists_congr fun cs=>and_congr Iff.rfl (and_congr Iff.rfl (forall_congr' fun i=>forall_congr' fun hi=>exists_congr fun x=>and_congr Iff.rfl (ih i)))
 | ref id k =>
  simp only [HV.ren,bq]
  exact and_congr Iff.rfl (and_congr (hbox id) (hdim id _))
 | ptr id off =>
  simp only [HV.ren,bq]
  refine and_congr Iff.rfl (and_congr ?_ ?_)
  · rw [ho]
    cases hid:o id with
    | none=>simp
    | some ob =>
     constructor
     · rintro g ob1 d h1 h2
       simp only [Option.some.injEq] at h1
       subst h1
       exact g _ d rfl (by rw [af.ren_dim];exact h2)
     rintro g ob1 d h1 h2
     simp only [Option.map_some,Option.some.injEq] at h1
     subst h1
     exact g _ d rfl (by rw [af.ren_dim] at h2;exact h2)
  rw [ho]
  cases hid:o id with
  | none=>simp
  | some ob =>
   cases ob with
   | nest e et es n m g pd=>cases pd <;> simp [af.ren]
   | _=>simp [af.ren,Ctx.ren]
 | eptr id k i j =>
  simp only [HV.ren,bq]
  exact and_congr Iff.rfl (and_congr (hbox id) (hdim id _))
 | win id k i m =>
  simp only [HV.ren,bq]
  exact and_congr Iff.rfl (and_congr (hbox id) (hdim id _))
 | row id i k =>
  simp only [HV.ren,bq]
  exact and_congr Iff.rfl (hnest id fun e et es n m g=>i < n ∧ k ≤ m i ∧ (k = m i → u = c.rows (r id) i))
 | pin id k ad cap =>
  simp only [HV.ren,bq]
  exact and_congr Iff.rfl (and_congr (hbox id) (hdim id _))
 | rptr id i k a j =>
  simp only [HV.ren,bq]
  exact and_congr Iff.rfl (hnest id fun e et es n m g=>i < n ∧ k ≤ m i ∧ (k = m i → a < k → ∃ b off cap,c.rows (r id) i = .slice (some ⟨b,off,none⟩) k cap ∧ u = .pointer (some ⟨b,off + (a * es + j),none⟩)))
theorem bh.ren (ho:∀ k,o' (r k) = (o k).map (af.ren r)):∀ {xs:List HV} {us:List Value},bh c o' (a97 r xs) us ↔ bh (c.ren r) o xs us
 | [],[]=>Iff.rfl
 | _ :: _,_ :: _=>and_congr (bq.ren ho) (bh.ren ho)
 | [],_ :: _=>Iff.rfl
 | _ :: _,[]=>Iff.rfl
theorem dq.ren (ho:∀ k,o' (r k) = (o k).map (af.ren r)) {x:HC} {u:Value}:dq c o' (x.ren r) u ↔ dq (c.ren r) o x u:=by
 cases x with
 | one h=>exact bq.ren ho
 | agg l=>exact exists_congr fun us=>and_congr Iff.rfl (bh.ren ho)
theorem c6.ren (ho:∀ k,o' (r k) = (o k).map (af.ren r)):∀ {xs:List HC} {us:List Value},c6 c o' (a13 r xs) us ↔ c6 (c.ren r) o xs us
 | [],[]=>Iff.rfl
 | _ :: _,_ :: _=>and_congr (dq.ren ho) (c6.ren ho)
 | [],_ :: _=>Iff.rfl
 | _ :: _,[]=>Iff.rfl
theorem ax.ren (ho:∀ k,o' (r k) = (o k).map (af.ren r)) {x:HR} {u:Value}:ax c o' (x.ren r) u ↔ ax (c.ren r) o x u:=by
 cases x with
 | v x=>exact dq.ren ho
 | tup l=>exact exists_congr fun us=>and_congr Iff.rfl (c6.ren ho)
theorem d9.ren (hr:∀ k,r (r k) = k) (ho:∀ k,o' (r k) = (o k).map (af.ren r)) {base:Nat} {w:World} {id:Nat} {ob:af}:d9 base c o' w (r id) (ob.ren r) ↔ d9 base (c.ren r) o w id ob:=by
 cases ob with
 | mp kk n f=>exact Iff.rfl
 | bld fr T e l=>exact Iff.rfl
 | ex d v b x=>exact Iff.rfl
 | bun B=>exact Iff.rfl
 | opq s e n R=>exact Iff.rfl
 | nest e et es n m g pd =>
  cases pd with
  | none=>exact ⟨fun ⟨q1,q2,q3,q4,q5,q6,q7⟩=>⟨q1,q2,q3,q4,q5,q6,q7.imp (fun z=>z) fun ⟨xs,q7,q8,_⟩=>⟨xs,q7,q8,fun p hp=>by cases hp⟩⟩,fun ⟨q1,q2,q3,q4,q5,q6,q7⟩=>⟨q1,q2,q3,q4,q5,q6,q7.imp (fun z=>z) fun ⟨xs,q7,q8,_⟩=>⟨xs,q7,q8,fun p hp=>by cases hp⟩⟩⟩
  | some p =>
   refine ⟨fun ⟨q1,q2,q3,q4,q5,q6,q7⟩=>⟨q1,q2,q3,q4,q5,q6,q7.imp (fun z=>z) fun ⟨xs,q7,q8,q9⟩=>⟨xs,q7,q8,fun p' hp=>?_⟩⟩,fun ⟨q1,q2,q3,q4,q5,q6,q7⟩=>⟨q1,q2,q3,q4,q5,q6,q7.imp (fun z=>z) fun ⟨xs,q7,q8,q9⟩=>⟨xs,q7,q8,fun p' hp=>?_⟩⟩⟩
   · cases hp
     obtain ⟨x,hx,hr⟩:=q9 _ rfl
     exact ⟨x,hx,(bq.ren ho (h:=.ref p.1 p.2)).1 hr⟩
   cases hp
   obtain ⟨x,hx,hr⟩:=q9 _ rfl
   exact ⟨x,hx,(bq.ren ho (h:=.ref p.1 p.2)).2 hr⟩
 | box l =>
  simp only [af.ren,d9,bh.ren ho]
  exact Iff.rfl
 | arr wr s e n f=>exact Iff.rfl
 | arrh s e n ms f =>
  simp only [af.ren,d9,bq.ren ho]
  refine and_congr Iff.rfl (and_congr Iff.rfl (and_congr ?_ Iff.rfl))
  constructor
  · intro g i j k hi hj hk
    have:=g i j (r k) hi hj ((HV.ren_men hr).2 (by rw [hr];exact hk))
    rw [a0f hr,hr] at this
    exact this
  intro g i j k hi hj hk
  exact (a0f hr).2 (g i j (r k) hi hj ((HV.ren_men hr).1 hk))
theorem Mem.ren (hr:∀ k,r (r k) = k) (ho:∀ k,o' (r k) = (o k).map (af.ren r)) {w:World}:Mem c o' w ↔ Mem (c.ren r) o w:=by
 have back:∀ id ob,o id = some ob → o' (r id) = some (ob.ren r):=fun id ob h=>by rw [ho,h];rfl
 have forth:∀ id ob,o' id = some ob → ∃ ob',o (r id) = some ob' ∧ ob = ob'.ren r:=fun id ob h=>by
  have:=ho (r id)
  rw [hr,h] at this
  cases hid:o (r id) with
  | none=>rw [hid] at this;cases this
  | some ob'=>rw [hid] at this;exact ⟨ob',rfl,by simpa using this⟩
 constructor
 · intro h
   refine ⟨fun id ob hob=>(d9.ren hr ho).1 (h.objs _ _ (back id ob hob)),fun i i' ob ob' b h1 h2 h3 h4=>?_,h.imm,fun id ob b h1 h2=>h.sep _ _ b (back id ob h1) h2⟩
   have:=h.inj _ _ _ _ b (back i ob h1) (back i' ob' h2) h3 h4
   have:=congrArg r this
   rwa [hr,hr] at this
 intro h
 refine ⟨fun id ob hob=>?_,fun i i' ob ob' b h1 h2 h3 h4=>?_,h.imm,fun id ob b h1 h2=>?_⟩
 · obtain ⟨ob',q1,rfl⟩:=forth id ob hob
   have:=(d9.ren hr ho).2 (h.objs _ _ q1)
   rwa [hr] at this
 · obtain ⟨x,q1,_⟩:=forth i ob h1
   obtain ⟨x',q1',_⟩:=forth i' ob' h2
   have:=h.inj _ _ _ _ b q1 q1' (by show c.blk (r (r i)) b;rw [hr];exact h3) (by show c.blk (r (r i')) b;rw [hr];exact h4)
   have:=congrArg r this
   rwa [hr,hr] at this
 obtain ⟨x,q1,_⟩:=forth id ob h1
 exact h.sep _ _ b q1 (by show c.blk (r (r id)) b;rw [hr];exact h2)
end
theorem a52 {r:Nat → Nat}:∀ {l:List Nat} {k:Nat},k ∈ renN r l → ∃ j ∈ l,k = r j
 | x :: l,k,h=>by
  rcases List.mem_cons.1 h with h | h
  · exact ⟨x,by simp,h⟩
  obtain ⟨j,hj,e⟩:=a52 h
  exact ⟨j,by simp [hj],e⟩
theorem Ctx.ren_ren {r:Nat → Nat} (hr:∀ k,r (r k) = k) (c:Ctx):(c.ren r).ren r = c:=by
 unfold Ctx.ren
 simp [hr]
theorem br.ren {P:Program} {r:Nat → Nat} (hr:∀ k,r (r k) = k) {f:FuncId} {args:List HC} {o1 o2:List (Nat × af)} {res:HR} {fx:List Nat} (h:br P f args o1 res o2 fx):br P f (a13 r args) (gp r o1) (res.ren r) (gp r o2) (renN r fx):=by
 intro w c us hm hargs
 have ho1:=md hr o1
 have ho2:=md hr o2
 refine (h w (c.ren r) us ((Mem.ren hr ho1).1 hm) ((c6.ren ho1).1 hargs)).mono ?_
 rintro e w' ⟨v,c',rfl,h1,h2,h3,h4,h5,h6⟩
 have forth:∀ (l:List (Nat × af)) id ob,lk (gp r l) id = some ob → ∃ ob',lk l (r id) = some ob' ∧ ob = ob'.ren r:=fun l id ob h=>by
  have:=md hr l (r id)
  rw [hr,h] at this
  cases hid:lk l (r id) with
  | none=>rw [hid] at this;cases this
  | some ob'=>rw [hid] at this;exact ⟨ob',rfl,by simpa using this⟩
 have back:∀ (l:List (Nat × af)) id ob,lk l id = some ob → lk (gp r l) (r id) = some (ob.ren r):=fun l id ob h=>by rw [md hr,h];rfl
 have hcc:=Ctx.ren_ren hr c'
 refine ⟨v,c'.ren r,rfl,(ax.ren ho2).2 (by rw [hcc];exact h1),(Mem.ren hr ho2).2 (by rw [hcc];exact h2),h3,fun b hb hno=>h4 b hb fun id ob hid hbk=>hno (r id) _ (back o1 id ob hid) hbk,fun id ob b hid hbk=>?_,fun id hid=>?_⟩
 · obtain ⟨x,q1,_⟩:=forth o2 id ob hid
   rcases h5 (r id) x b q1 hbk with e | ⟨i0,ob0,e1,e2⟩
   · exact .inl e
   exact .inr ⟨r i0,_,back o1 i0 ob0 e1,e2⟩
 obtain ⟨j,hj,rfl⟩:=a52 hid
 rcases h6 j hj with e | ⟨l,l',e1,e2,e3⟩ | ⟨oa,ob',s,e,n,n',e1,e1',e2,e2',e3,e4,e5⟩
 · exact .inl (by rw [ho2,e];rfl)
 · exact .inr (.inl ⟨_,_,back o1 j _ e1,back o2 j _ e2,by show c'.own (r (r j)) = _;rw [hr];exact e3⟩)
 exact .inr (.inr ⟨_,_,s,e,n,n',back o1 j _ e1,by rw [af.ren_dim];exact e1',back o2 j _ e2,by rw [af.ren_dim];exact e2',e3,fun hn=>by show c'.own (r (r j)) = _;rw [hr];exact e4 hn,fun ea et es na ma ga pd hb=>by
  obtain ⟨pd',hb'⟩:∃ pd',ob' = .nest ea et es na ma ga pd':=by
   cases ob' with
   | nest e0 et0 es0 n0 m0 g0 pd0 =>
    cases pd0 with
    | none=>simp only [af.ren,af.nest.injEq] at hb;obtain ⟨rfl,rfl,rfl,rfl,rfl,rfl,_⟩:=hb;exact ⟨_,rfl⟩
    | some p=>simp only [af.ren,af.nest.injEq] at hb;obtain ⟨rfl,rfl,rfl,rfl,rfl,rfl,_⟩:=hb;exact ⟨_,rfl⟩
   | _=>simp [af.ren] at hb
  obtain ⟨e0,et0,n0,m0,g0,pd0,r1,r2,r3⟩:=e5 _ _ _ _ _ _ _ hb'
  subst r1
  refine ⟨e0,et0,n0,m0,g0,pd0.map fun p=>(r p.1,p.2),by cases pd0 <;> rfl,r2,fun i hi=>⟨(r3 i hi).1,fun hm=>?_⟩⟩
  show c'.rows (r (r j)) i = _
  rw [hr]
  exact (r3 i hi).2 hm⟩)
theorem dt.unren {c c':Ctx} {r:Nat → Nat} {ob ob':af} {id:Nat} (h:dt c (ob.ren r) c' (ob'.ren r) (r id)):dt (c.ren r) ob (c'.ren r) ob' id:=fun ea et es na ma ga pd hb=>by
 subst hb
 obtain ⟨pd',hb'⟩:∃ pd',(af.nest ea et es na ma ga pd).ren r = .nest ea et es na ma ga pd':=by cases pd <;> exact ⟨_,rfl⟩
 obtain ⟨e0,et0,n0,m0,g0,pd0,r1,r2,r3⟩:=h _ _ _ _ _ _ _ hb'
 have:∃ pd1,ob = .nest e0 et0 es n0 m0 g0 pd1:=by
  cases ob with
  | nest e1 et1 es1 n1 m1 g1 pd1 =>
   cases pd1 with
   | none=>simp only [af.ren,af.nest.injEq] at r1;obtain ⟨rfl,rfl,rfl,rfl,rfl,rfl,_⟩:=r1;exact ⟨_,rfl⟩
   | some p=>simp only [af.ren,af.nest.injEq] at r1;obtain ⟨rfl,rfl,rfl,rfl,rfl,rfl,_⟩:=r1;exact ⟨_,rfl⟩
  | _=>simp [af.ren] at r1
 obtain ⟨pd1,rfl⟩:=this
 exact ⟨_,_,_,_,_,_,rfl,r2,r3⟩
theorem br.swap {P:Program} (x y:Nat) {f:FuncId} {args:List HC} {o1 o2:List (Nat × af)} {res:HR} {fx:List Nat} (h:br P f args o1 res o2 fx):br P f (a13 (swp x y) args) (gp (swp x y) o1) (res.ren (swp x y)) (gp (swp x y) o2) (renN (swp x y) fx):=h.ren (a7s x y)
end
section
open Go.RowKit
theorem br.pure {P:Program} {f:FuncId} {args:List PC} {l:List HC} {o2:List (Nat × af)} {q:Prop} {vs:List PC} (h:br P f (args.map PC.toH) [] (a94 l) o2 []) (hv:ly (lk o2) l = some (q,vs)) (hq:q):ay P f args (bu vs):=by
 intro w imm us htab himm hargs
 let c:Ctx:={ old:=(imm,fq w,(fun _=>undef),(fun _=>none),fun _ _=>undef),imm:=imm,tab:=htab,own:=fun _=>undef,blk:=fun _=>noB,rows:=fun _ _=>undef }
 have hmem:Mem c (lk []) w:=⟨(fun id ob ho=>by cases ho),(fun i i' ob ob' b ho=>by cases ho),himm,(fun id ob b ho=>by cases ho)⟩
 refine (h w c us hmem (c6.of_P hargs)).mono ?_
 rintro e w' ⟨v,c',rfl,hr,hm,hb,hfr,hbk,_⟩
 have hfr':∀ b,b < w.heap.size → w'.heap[b]? = w.heap[b]? ∧ c'.imm b = imm b:=fun b hlt=>hfr b hlt fun id ob ho=>by cases ho
 let c2:Ctx:={ old:=(imm,fq w,c'.own,lk o2,c'.rows),imm:=c'.imm,tab:=c'.tab,own:=c'.own,blk:=c'.blk,rows:=c'.rows }
 have hfn:∀ b,c2.frm b ≠ none → b < w.heap.size:=fun b hne=>by
  have hne:w.heap[b]? ≠ none:=hne
  exact Nat.lt_of_not_le fun hle=>hne (Array.getElem?_eq_none hle)
 have hrel:ak w 0 c2 ⟨fun _=>none,lk o2⟩ { tmps:=#[],defers:=[] } w':=by
  refine ⟨lh.nil _ _ _ _,rfl,hb,(fun d x hx=>by cases hx),fun id ob ho=>?_,hm.inj,hm.imm,hm.sep,fun b hne=>(hfr' b (hfn b hne)).2,fun b ob hbo=>?_,fun id ob b ho hbb=>?_,fun id _=>Evo.of_same rfl rfl⟩
  · exact (hm.objs id ob ho).keep (Imm.le.refl c'.imm) rfl rfl (fun _ _=>Evo.of_same rfl rfl) fun _ _=>rfl
  · have hbo:w.heap[b]? = some ob:=hbo
    rw [(hfr' b (Array.getElem?_eq_some_iff.1 hbo).1).1]
    exact hbo
  show w.heap[b]? = none
  rcases hbk id ob b ho hbb with e | ⟨_,_,e,_⟩
  · exact Array.getElem?_eq_none e
  cases e
 let m:Imm:=fun b=>if b < w.heap.size then imm b else w'.heap[b]?
 have hseen:sj w c2 w' m:=by
  refine ⟨fun b ob hbo=>?_,fun b hb' _=>?_⟩
  · have hbo:c'.imm b = some ob:=hbo
    by_cases hlt:b < w.heap.size
    · simp only [m,hlt,if_true]
      rw [← (hfr' b hlt).2]
      exact hbo
    simp only [m,hlt,if_false]
    exact hm.imm b ob hbo
  have hb':w.heap[b]? = none:=hb'
  have:¬ b < w.heap.size:=fun hlt=>by simp [hlt] at hb'
  simp [m,this]
 have hrep:ax c2 (lk o2) (a94 l) v:=ax.evo (c:=c') (o:=lk o2) (Imm.le.refl c'.imm) (fun _ _=>Evo.of_same rfl rfl) hr
 refine ⟨v,m,rfl, ?_,fun b hlt=>by simp [m,hlt],fun b ob hbo=>?_,⟨hb.os,hb.tape,hb.output,hb.size,fun k hk=>(hfr' k hk).1,hb.drawn⟩⟩
 · match l,hv,hrep with
   | [],hv,hrep =>
    obtain ⟨us',rfl,hl⟩:=hrep
    simp only [ly,Option.some.injEq,Prod.mk.injEq] at hv
    obtain ⟨_,rfl⟩:=hv
    exact ⟨us',rfl,by cases us' with | nil=>trivial | cons=>exact hl.elim⟩
   | [x],hv,hrep =>
    have hl:c6 c2 (lk o2) [x] [v]:=⟨hrep,trivial⟩
    have:=l5 hrel hseen hl hv hq
    match vs,this with
    | [y],this=>exact this.1
    | [],this=>exact this.elim
    | _ :: _ :: _,this=>exact this.2.elim
   | x :: y :: r,hv,hrep =>
    obtain ⟨us',rfl,hl⟩:=hrep
    have:=l5 hrel hseen hl hv hq
    match vs,us',this with
    | a :: b :: t,us',this=>exact ⟨us',rfl,this⟩
    | [],us',this=>cases us' with | nil=>exact hl.elim | cons=>exact this.elim
    | [a],us',this =>
     match us',hl,this with
     | [],hl,_=>exact hl.elim
     | [_],hl,_=>exact hl.2.elim
     | _ :: _ :: _,_,this=>exact this.2.elim
 by_cases hlt:b < w.heap.size
 · simp only [m,hlt,if_true] at hbo
   rw [(hfr' b hlt).1]
   exact himm b ob hbo
 simpa [m,hlt] using hbo
end
section
open Go.RowKit
section
variable {ro:Option Nat} {P:Program} {E:Env} {nt:Nat} {ops:Array Oper} {i:Nat} {o:Oper} {st:HSt} {T:List Tr} {sf:S} {L:List Nat} {K:List Tr → HSt → Prop}
theorem aax (b:ByteArray) (i:Nat):0 ≤ da b i ∧ da b i ≤ 255:=by
 unfold da
 have:=(b.data.toList.getD i 0).toNat_lt
 omega
theorem ab8 (b:ByteArray) (i:Nat):(jf true .i64 (da b i)).1:=by
 have:=aax b i
 simp only [jf,inR,xy,a31]
 omega
theorem rq {out:Out} {gb:Bool} (hi:ops[i]? = some o) (hw:bj ops st.den o = some gb) (hd:dk nt o.dst = true) (hq':hq E true st.den.o (ev st.den) o.op = some out) (hg:gb = true)
 (hT:Reg P E nt ops L (st.after o.dst (some out.val) []) fun T sf=>K (⟨i,a3e true out.val.ids,dl st.den o,cq st.den o.dst [],f5 E st.den o⟩ :: T) sf)
 (hp:out.pre:=by first | exact trivial | (simp only [jf,inR,xy,a31];omega) | exact ab8 _ _ | exact ⟨trivial,trivial⟩ | exact ⟨trivial,Nat.le_of_ble_eq_true rfl⟩ | (try dsimp only) <;> ((repeat' apply And.intro) <;> first | trivial | rfl | omega | (simp only [oi,ik];omega) | assumption | exact Nat.le_of_ble_eq_true rfl)) :
 Reg P E nt ops (i :: L) st K:=dj true hi hw hd hq' hg hp hT
theorem rm (id:Nat) {nw:New} {gb:Bool} (hi:ops[i]? = some o) (hw:bj ops st.den o = some gb) (hd:dk nt o.dst = true) (hq':ha E (ev st.den) id o.op = some nw) (hn:nq id st = true) (hg:gb = true)
 (hT:Reg P E nt ops L (st.after o.dst (some nw.val) [(id,some nw.ob)]) fun T sf=>K (⟨i,⟨id,false,true, .tup [],[id],[id],nw.val.ids ++ nw.ob.ids⟩,dl st.den o,cq st.den o.dst [(id,some nw.ob)],none⟩ :: T) sf)
 (hp:nw.pre:=by first | exact trivial | (try dsimp only) <;> ((repeat' apply And.intro) <;> first | trivial | rfl | omega | assumption)):Reg P E nt ops (i :: L) st K:=ur id hi hw hd hq' hn hg hp hT
theorem rs {u:Upd} {gb:Bool} (hi:ops[i]? = some o) (hw:bj ops st.den o = some gb) (hd:dk nt o.dst = true) (hq':hs E st.den.o (ev st.den) o.op = some u) (hg:gb = true)
 (hT:Reg P E nt ops L (st.after o.dst none [(u.id,some u.ob)]) fun T sf=>K (⟨i,⟨0,false,true, .tup [],[u.id],[],u.ob.ids⟩,dl st.den o,cq st.den o.dst [(u.id,some u.ob)],f5 E st.den o⟩ :: T) sf)
 (hp:u.pre:=by first | exact Nat.le_of_ble_eq_true rfl | (try dsimp only) <;> ((repeat' apply And.intro) <;> first | trivial | rfl | omega | (simp only [oi,ik];omega) | assumption | exact Nat.le_of_ble_eq_true rfl)):Reg P E nt ops (i :: L) st K:=a5p hi hw hd hq' hg hp hT
theorem ra (id:Nat) (wb:Bool) {u:App} {gb:Bool} (hi:ops[i]? = some o) (hw:bj ops st.den o = some gb) (hd:dk nt o.dst = true) (hq':hap E st.den.o (ev st.den) id wb o.op = some u) (hn:(!u.new || nq id st) = true) (hg:gb = true)
 (hT:Reg P E nt ops L (st.after o.dst (some u.val) [(u.id,some u.ob)]) fun T sf=>K (⟨i,⟨id,wb,true, .tup [],[u.id],if u.new then [id] else [],u.val.ids ++ u.ob.ids⟩,dl st.den o,cq st.den o.dst [(u.id,some u.ob)],none⟩ :: T) sf)
 (hp:u.pre:=by (try dsimp only) <;> ((repeat' apply And.intro) <;> first | trivial | rfl | assumption | omega | (simp only [Int.toNat_natCast];omega) | (simp only [oi,ik];omega) | exact Or.inl rfl | exact Or.inr rfl | exact (fun _=>Or.inl rfl) | exact (fun _=>Or.inr (Nat.le_of_ble_eq_true rfl)) | exact Nat.le_of_ble_eq_true rfl | (intro h;cases h;done))):Reg P E nt ops (i :: L) st K:=a1k id wb hi hw hd hq' hn hg hp hT
theorem rc {cl:Call} {f:FuncId} {fst caps args vs:List PC} {p:Prop} {b:Bool} {res:PR} {gb:Bool} (hi:ops[i]? = some o) (hw:bj ops st.den o = some gb) (hd:dk nt o.dst = true) (ho:o.op = .call cl) (hc:callee (ev st.den) cl = some (f,fst,caps))
 (hv:iw st.den.o (ev st.den) cl.args.toList = some (p,vs,b)) (hf:am P f) (hpure:ay P f args res) (hco:CoL (fst ++ (vs ++ caps)) args) (hb:(!b || res.flat) = true) (hg:gb = true)
 (hT:Reg P E nt ops L (st.after o.dst (some res.toH) []) fun T sf=>K (⟨i,⟨0,false,true,res,[],[],[]⟩,dl st.den o,cq st.den o.dst [],none⟩ :: T) sf)
 (hp:p:=by (try dsimp only) <;> ((repeat' apply And.intro) <;> first | trivial | rfl | omega | assumption)):Reg P E nt ops (i :: L) st K:=a7m hi hw hd ho hc hv hf hpure hco hg hp hb hT
theorem rv {sr ds:TypeId} {x:Operand} {b:ByteArray} {gb:Bool} (hi:ops[i]? = some o) (hw:bj ops st.den o = some gb) (hd:dk nt o.dst = true) (ho:o.op = .convert sr ds x) (hcv:a14 E (ev st.den) sr ds x = some b) (hg:gb = true)
 (hT:Reg P E nt ops L (st.after o.dst (some (.v (.one (.p (.sl b.size 1 false (a98 b)))))) []) fun T sf=>K (⟨i,⟨0,false,true, .tup [],[],[],[]⟩,dl st.den o,cq st.den o.dst [],none⟩ :: T) sf)
 (hp:b.size ≤ maxLen:=by first | assumption | (unfold maxLen;omega)):Reg P E nt ops (i :: L) st K:=aex hi hw hd ho hcv hg hp hT
theorem rk {gb:Bool} (hi:ops[i]? = some o) (hw:bj ops st.den o = some gb) (hd:dk nt o.dst = true) (hg:gb = false)
 (hT:Reg P E nt ops L (st.after o.dst (some (.tup [])) []) fun T sf=>K (⟨i,a3e true [],dl st.den o,cq st.den o.dst [],none⟩ :: T) sf):Reg P E nt ops (i :: L) st K:=a7f hi hw hd hg hT
theorem afm {out:Out} {id:Nat} {gb:Bool} (hi:ops[i]? = some o) (hw:bj ops st.den o = some gb) (hd:dk nt o.dst = true) (hq':qn E st.den.o (ev st.den) o.op = some (out,id)) (hg:gb = true)
 (hT:Reg P E nt ops L (st.after o.dst (some out.val) [(id,none)]) fun T sf=>K (⟨i,⟨0,false,true, .tup [],[id],[],[]⟩,dl st.den o,cq st.den o.dst [(id,none)],none⟩ :: T) sf)
 (hp:out.pre:=by (try dsimp only) <;> ((repeat' apply And.intro) <;> first | trivial | rfl | omega | (simp only [oi,ik];omega) | assumption | exact Nat.le_of_ble_eq_true rfl)):Reg P E nt ops (i :: L) st K:=ag6 hi hw hd hq' hg hp hT
theorem bo {b w:Bool} (hi:ops[i]? = some o) (hw:bj ops st.den o = some (b == w)) (ht:b = true → Reg P E nt ops (i :: L) st K) (hf:b = false → Reg P E nt ops (i :: L) st K):Reg P E nt ops (i :: L) st K:=by
 cases hb:b with
 | true=>exact ht hb
 | false=>exact hf hb
theorem gtt {b:Bool} (h:b = true):(b == true) = true:=by subst h;rfl
theorem gff {b:Bool} (h:b = false):(b == false) = true:=by subst h;rfl
theorem gtf {b:Bool} (h:b = true):(b == false) = false:=by subst h;rfl
theorem gft {b:Bool} (h:b = false):(b == true) = false:=by subst h;rfl
end
theorem ay.eat {P:Program} {f:FuncId} {args:List PC} {res:PR} {hcs:List HC} {o1:List (Nat × af)} {q:Prop} {vs:List PC} (h:ay P f args res) (hv:ly (lk o1) hcs = some (q,vs)) (hq:q) (hco:CoL vs args):br P f hcs o1 res.toH [] []:=by
 classical
 intro w c us hm hargs
 let own:Nat → Prop:=fun b=>∃ id ob,lk o1 id = some ob ∧ c.blk id b
 let frm:Imm:=fun b=>if own b then none else w.heap[b]?
 let c2:Ctx:={ old:=(c.imm,frm,c.own,lk o1,c.rows),imm:=c.imm,tab:=c.tab,own:=c.own,blk:=c.blk,rows:=c.rows }
 have hrel:ak w 0 c2 ⟨fun _=>none,lk o1⟩ { tmps:=#[],defers:=[] } w:=by
  refine ⟨lh.nil _ _ _ _,rfl,Below.refl _ _,(fun d x hx=>by cases hx),fun id ob ho=>?_,hm.inj,hm.imm,hm.sep,fun b _=>rfl,fun b ob hbo=>?_,fun id ob b ho hbb=>?_,fun id _=>Evo.of_same rfl rfl⟩
  · exact (hm.objs id ob ho).keep (Imm.le.refl c.imm) rfl rfl (fun _ _=>Evo.of_same rfl rfl) fun _ _=>rfl
  · have hbo:frm b = some ob:=hbo
    simp only [frm] at hbo
    split at hbo
    · cases hbo
    exact hbo
  show frm b = none
  simp only [frm]
  rw [if_pos ⟨id,ob,ho,hbb⟩]
 let m:Imm:=fun b=>if own b then w.heap[b]? else c.imm b
 have hseen:sj w c2 w m:=by
  refine ⟨fun b ob hbo=>?_,fun b hb' hlt=>?_⟩
  · have hbo:c.imm b = some ob:=hbo
    have:¬ own b:=fun ⟨id,ob2,h1,h2⟩=>by rw [hm.sep id ob2 b h1 h2] at hbo;cases hbo
    simp only [m,this,if_false]
    exact hbo
  have hb':frm b = none:=hb'
  by_cases ho:own b
  · simp [m,ho]
  simp only [frm,ho,if_false] at hb'
  have:¬ b < w.heap.size:=fun hlt=>by simp [hlt] at hb'
  exact absurd hlt this
 have hrep:c6 c2 (lk o1) hcs us:=c6.evo (c:=c) (c':=c2) (o:=lk o1) (o':=lk o1) (Imm.le.refl c.imm) (fun _ _=>Evo.of_same rfl rfl) hargs
 have hview:=CoL.sound hco (l5 hrel hseen hrep hv hq)
 have hmm:∀ b ob,m b = some ob → w.heap[b]? = some ob:=fun b ob hbo=>by
  simp only [m] at hbo
  split at hbo
  · exact hbo
  exact hm.imm b ob hbo
 have hlem:Imm.le c.imm m:=fun b ob hb=>by
  by_cases hb':own b
  · obtain ⟨id,ob2,h1,h2⟩:=hb'
    rw [hm.sep id ob2 b h1 h2] at hb;cases hb
  simp only [m,hb',if_false];exact hb
 refine (h w m us (c.tab.mono hlem) hmm hview).mono ?_
 rintro e w' ⟨v,imm',rfl,h1,h2,h3,h4⟩
 refine ⟨v,{ old:=c.old,imm:=imm',tab:=(c.tab.mono hlem).mono (fun b ob hb=>by rw [h2 b (Array.getElem?_eq_some_iff.1 (hmm b ob hb)).1];exact hb),own:=c.own,blk:=c.blk,rows:=c.rows },rfl,ax.of_P h1,⟨(fun id ob ho=>by cases ho),(fun i i' ob ob' b ho=>by cases ho),h3,(fun id ob b ho=>by cases ho)⟩,h4.mono (Nat.zero_le _),fun b hb hno=>?_,(fun id ob b ho=>by cases ho),fun id hid=>by cases hid⟩
 have hnb:¬ own b:=fun ⟨id,ob2,h1,h2⟩=>hno id ob2 h1 h2
 exact ⟨h4.block b hb,by show imm' b = _;rw [h2 b hb];simp [m,hnb]⟩
theorem bw {b x y v:Bool} (h:b = false) (e:(bif b then x else y) = v):y = v:=by subst h;exact e
theorem dm {b x y v:Bool} (h:b = true) (e:(bif b then x else y) = v):x = v:=by subst h;exact e
theorem b9 {b x y v:Bool} (h:b = false) (e:y = v):(bif b then x else y) = v:=by subst h;exact e
theorem lz {b x y v:Bool} (h:b = true) (e:x = v):(bif b then x else y) = v:=by subst h;exact e
theorem b7 {x:Bool} (e:(!x) = true):x = false:=by simpa using e
theorem b8 {x:Bool} (e:(!x) = false):x = true:=by simpa using e
theorem coi {k:IntKind} {a b:Int} (h:a = b):CoR (cf (.raw (.int k a))) (cf (.raw (.int k b))):=CoR.of_eq (by rw [h])
theorem cob {a b:Bool} (h:a = b):CoR (cf (.raw (.bool a))) (cf (.raw (.bool b))):=CoR.of_eq (by rw [h])
theorem CoC.of_eq {x y:PC} (h:x = y):CoC x y:=h ▸ CoC.refl x
theorem CoL.of_eq {x y:List PC} (h:x = y):CoL x y:=h ▸ CoL.refl x
theorem cci {k:IntKind} {a b:Int} (h:a = b):CoC (.one (.raw (.int k a))) (.one (.raw (.int k b))):=CoC.of_eq (by rw [h])
theorem ccb {a b:Bool} (h:a = b):CoC (.one (.raw (.bool a))) (.one (.raw (.bool b))):=CoC.of_eq (by rw [h])
theorem CoC.one {x y:PV} (h:CoP x y):CoC (.one x) (.one y):=h
def y9:List PV → List PV → Prop
 | [],[]=>True
 | x :: xs,y :: ys=>CoP x y ∧ y9 xs ys
 | _,_=>False
theorem y9.refl:∀ (l:List PV),y9 l l
 | []=>trivial
 | x :: l=>⟨CoP.refl x,y9.refl l⟩
theorem y9.sound {m:Imm}:∀ {xs ys:List PV} {us:List Value},y9 xs ys → eb m xs us → eb m ys us
 | [],[],[],_,_=>trivial
 | _ :: _,_ :: _,_ :: _,h,k=>⟨h.1 _ _ k.1,y9.sound h.2 k.2⟩
 | [],_ :: _,_,h,_=>h.elim
 | _ :: _,[],_,h,_=>h.elim
 | [],[],_ :: _,_,h=>h.elim
 | _ :: _,_ :: _,[],_,h=>h.elim
theorem CoC.agg {l l':List PV} (h:y9 l l'):CoC (.agg l) (.agg l'):=by
 rintro m u ⟨us,e,hl⟩
 exact ⟨us,e,h.sound hl⟩
def lf {α:Type} [Inhabited α] (c:α → Nat → PV) (l:List α):Nat → Nat → PV:=fun i j=>c (l.getD i default) j
def psl {α:Type} [Inhabited α] (s:Nat) (c:α → Nat → PV) (l:List α):PV:=.sl l.length s false (lf c l)
theorem a2w {α:Type} [Inhabited α] {s k:Nat} {cl:Bool} {c:α → Nat → PV} {l:List α} (hk:k ≤ l.length):CoP (.sl k s cl (lf c l)) (psl s c (l.take k)):=by
 refine CoP.sl (by simp [hk]) (.inl rfl) (fun h=>by cases h) fun i j hi hj=>CoP.of_eq ?_
 simp only [lf,List.getD,List.getElem?_take,hi,if_true]
theorem aem {α:Type} [Inhabited α] {s k:Nat} {cl:Bool} {c:α → Nat → PV} {l:List α}:CoP (.sl (l.length - k) s cl (fun i j=>lf c l (k + i) j)) (psl s c (l.drop k)):=by
 refine CoP.sl (by simp) (.inl rfl) (fun h=>by cases h) fun i j hi hj=>CoP.of_eq ?_
 simp only [lf,List.getD,List.getElem?_drop]
theorem kb {α:Type} [Inhabited α] {wr wr':Bool} {s:Nat} {e:TypeId} {c:α → Nat → PV} {l:List α} {m:Nat} {g:Nat → Nat → PV} (l':List α) (hw:wr' = true → wr = true) (hm:m = l'.length) (hg:∀ i j,i < l'.length → j < s → CoP (g i j) (lf c l' i j)) :
 CoO (.arr wr s e (l.length + m) (eo l.length (lf c l) g)) (.arr wr' s e (l ++ l').length (lf c (l ++ l'))):=by
 subst hm
 refine ⟨hw,rfl,rfl,by simp,fun i j hi hj=>?_⟩
 unfold eo
 by_cases h:i < l.length
 · rw [if_pos h]
   refine CoP.of_eq ?_
   simp only [lf,List.getD,List.getElem?_append_left h]
 rw [if_neg h]
 have:=hg (i - l.length) j (by omega) hj
 have e:lf c (l ++ l') i j = lf c l' (i - l.length) j:=by simp only [lf,List.getD,List.getElem?_append_right (Nat.le_of_not_lt h)]
 rw [e];exact this
theorem yy {α:Type} [Inhabited α] {s:Nat} {cl:Bool} {c:α → Nat → PV} {l:List α} {f:Nat → Nat → PV}:CoP (.sl (0 + l.length) s cl (eo 0 f (lf c l))) (psl s c l) :=
 CoP.sl (Nat.zero_add _).symm (.inl rfl) (fun h=>by cases h) fun i j _ _=>CoP.of_eq (by simp [eo])
theorem fc {α:Type} [Inhabited α] {wr wr':Bool} {s i:Nat} {e:TypeId} {c:α → Nat → PV} {l:List α} {g:Nat → Nat → PV} (hw:wr' = true → wr = true) (hg:∀ j,j < s → CoP (g 0 j) (lf c l i j)) :
 CoO (.arr wr s e (i + 1) (eo i (lf c l) g)) (.arr wr' s e (i + 1) (lf c l)):=by
 refine ⟨hw,rfl,rfl,rfl,fun a j ha hj=>?_⟩
 unfold eo
 by_cases h:a < i
 · rw [if_pos h];exact CoP.refl _
 obtain rfl:a = i:=by omega
 rw [if_neg h,Nat.sub_self]
 exact hg j hj
theorem ar {s s':Nat} {cl:Bool} {f f':Nat → Nat → PV}:CoP (.sl 0 s cl f) (.sl 0 s' false f'):=CoP.sl rfl (.inr rfl) (fun h=>by cases h) fun i j hi _=>absurd hi (Nat.not_lt_zero i)
theorem qz {α:Type} [Inhabited α] {s n m:Nat} {cl:Bool} {c:α → Nat → PV} {l l':List α} {f g:Nat → Nat → PV} (hn:n = l.length) (hm:m = l'.length) (hf:∀ i j,i < n → j < s → CoP (f i j) (lf c l i j)) (hg:∀ i j,i < m → j < s → CoP (g i j) (lf c l' i j)) :
 CoP (.sl (n + m) s cl (eo n f g)) (psl s c (l ++ l')):=by
 subst hn hm
 refine CoP.sl (by simp) (.inl rfl) (fun h=>by cases h) fun i j hi hj=>?_
 unfold eo
 by_cases h:i < l.length
 · rw [if_pos h]
   have e:lf c (l ++ l') i j = lf c l i j:=by simp only [lf,List.getD,List.getElem?_append_left h]
   rw [e];exact hf i j h hj
 rw [if_neg h]
 have e:lf c (l ++ l') i j = lf c l' (i - l.length) j:=by simp only [lf,List.getD,List.getElem?_append_right (Nat.le_of_not_lt h)]
 rw [e];exact hg (i - l.length) j (by omega) hj
theorem jh {α:Type} [Inhabited α] {c:α → Nat → PV} {l:List α} {k i j:Nat} {x:α} (h:i = k) (hi:i < l.length):lf c (l.set k x) i j = c x j:=by
 subst h
 simp [lf,List.getD,hi]
theorem jv {α:Type} [Inhabited α] {c:α → Nat → PV} {l:List α} {k i j:Nat} {x:α} (h:¬ i = k):lf c (l.set k x) i j = lf c l i j:=by
 simp only [lf,List.getD,List.getElem?_set_ne (Ne.symm h)]
theorem tsf {α:Type} (l:List (List α)) (i:Nat) (h:i < l.length):(l.take (i + 1)).flatten = (l.take i).flatten ++ l.getD i default:=by
 rw [List.take_succ_eq_append_getElem h,List.flatten_append]
 simp [List.getD,List.getElem?_eq_getElem h]
theorem ko {α:Type} (l:List (List α)) (i:Nat) (h:i < l.length):(l.take i).flatten.length + (l.getD i default).length ≤ l.flatten.length:=by
 have:l.flatten.length = (l.take (i + 1)).flatten.length + (l.drop (i + 1)).flatten.length:=by
  rw [← List.length_append,← List.flatten_append,List.take_append_drop]
 rw [this,tsf l i h,List.length_append]
 omega
theorem lt1 {P:Nat → Prop} (h0:P 0):∀ j,j < 1 → P j:=fun j hj=>by
 obtain rfl:j = 0:=by omega
 exact h0
theorem jq {P:Nat → Nat → Prop} {s:Nat} (h:∀ j,j < s → P 0 j):∀ i j,i < 1 → j < s → P i j:=fun i j hi hj=>by
 obtain rfl:i = 0:=by omega
 exact h j hj
theorem lt2 {P:Nat → Prop} (h0:P 0) (h1:P 1):∀ j,j < 2 → P j:=fun j hj=>by
 rcases j with _ | _ | j
 · exact h0
 · exact h1
 omega
theorem lt3 {P:Nat → Prop} (h0:P 0) (h1:P 1) (h2:P 2):∀ j,j < 3 → P j:=fun j hj=>by
 rcases j with _ | _ | _ | j
 · exact h0
 · exact h1
 · exact h2
 omega
theorem a2o {P:Nat → Prop} (h0:P 0) (h1:P 1) (h2:P 2) (h3:P 3) (h4:P 4) (h5:P 5) (h6:P 6) (h7:P 7) (h8:P 8) (h9:P 9) (h10:P 10):∀ j,j < 11 → P j:=fun j hj=>by
 rcases j with _ | _ | _ | _ | _ | _ | _ | _ | _ | _ | _ | j
 · exact h0
 · exact h1
 · exact h2
 · exact h3
 · exact h4
 · exact h5
 · exact h6
 · exact h7
 · exact h8
 · exact h9
 · exact h10
 omega
def me (i0:Nat) (h:HV) (f:Nat → Nat → PV):Nat → Nat → HV:=fun i j=>if i = i0 ∧ j = 1 then h else .p (f i j)
theorem a18 {e:TypeId} {f:Nat → Nat → PV} {g:Nat → Nat → HV} {h:HV} {i0:Nat} {ms ms':List Nat} (hg0:CoH (g 0 0) (.p (f i0 0))) (hg1:CoH (g 0 1) h) (hms:∀ k ∈ ms',k ∈ ms) :
 CoO (.arrh 2 e (i0 + 1) ms' (gm i0 (fun a b=>.p (f a b)) g)) (.arrh 2 e (i0 + 1) ms (me i0 h f)):=by
 refine ⟨rfl,rfl,rfl,fun a b ha hb=>?_, .inl hms⟩
 unfold gm me
 by_cases h1:a < i0
 · rw [if_pos h1,if_neg (by omega)];exact CoH.refl _
 obtain rfl:a = i0:=by omega
 rw [if_neg h1,Nat.sub_self]
 rcases b with _ | _ | b
 · rw [if_neg (by omega)];exact hg0
 · rw [if_pos ⟨rfl,rfl⟩];exact hg1
 omega
theorem a3r {e:TypeId} {f:Nat → Nat → PV} {g:Nat → Nat → HV} {h:HV} {i0 i:Nat} {ms ms':List Nat} (hi:i0 < i) (hg:∀ j,j < 2 → CoH (g 0 j) (.p (f i j))) (hms:∀ k ∈ ms',k ∈ ms) :
 CoO (.arrh 2 e (i + 1) ms' (gm i (me i0 h f) g)) (.arrh 2 e (i + 1) ms (me i0 h f)):=by
 refine ⟨rfl,rfl,rfl,fun a b ha hb=>?_, .inl hms⟩
 unfold gm
 by_cases h1:a < i
 · rw [if_pos h1];exact CoH.refl _
 obtain rfl:a = i:=by omega
 rw [if_neg h1,Nat.sub_self]
 unfold me
 rw [if_neg (by omega)]
 exact hg b hb
theorem aey {α:Type} [Inhabited α] {wr wr':Bool} {s n k m:Nat} {e:TypeId} {c:α → Nat → PV} {l:List α} {x y:α} {ps qs:List PV} (hw:wr' = true → wr = true) (hn:n = l.length) (hk:k < l.length) (hm:m < l.length) (hp:ps.length = s) (hq:qs.length = s)
 (h1:∀ j,j < s → CoP (ps.getD j .any) (c x j)) (h2:∀ j,j < s → CoP (qs.getD j .any) (c y j)) :
 CoO (.arr wr s e n (gt (gt (lf c l) k 0 ps) m 0 qs)) (.arr wr' s e n (lf c ((l.set k x).set m y))):=by
 refine ⟨hw,rfl,rfl,rfl,fun i j hi hj=>?_⟩
 unfold gt
 by_cases hm':i = m
 · rw [if_pos ⟨hm',Nat.zero_le _,by omega⟩,jh hm' (by simp;omega),Nat.sub_zero];exact h2 j hj
 rw [if_neg (by omega),jv hm']
 by_cases hk':i = k
 · rw [if_pos ⟨hk',Nat.zero_le _,by omega⟩,jh hk' (by omega),Nat.sub_zero];exact h1 j hj
 rw [if_neg (by omega),jv hk'];exact CoP.refl _
theorem dr {P:Nat → Prop} {i:Nat} (h:∀ j,j < i → P j) (hn:P i):∀ j,j < i + 1 → P j:=fun j hj=>by
 rcases Nat.lt_succ_iff_lt_or_eq.1 hj with h1 | rfl
 · exact h j h1
 exact hn
theorem dy {P:Nat → Prop}:∀ j,j < 0 → P j:=fun j hj=>absurd hj (Nat.not_lt_zero j)
section
variable {α:Type} [Inhabited α] {p:α → Bool} {l:List α} {i:Nat}
theorem a8d (hi:i < l.length) (h:p (l.getD i default) = false):l.all p = false:=by
 rw [List.all_eq_false]
 refine ⟨l[i],List.getElem_mem hi, ?_⟩
 simp only [List.getD,List.getElem?_eq_getElem hi,Option.getD_some] at h
 simp [h]
theorem a9b (h:∀ j,j < l.length → p (l.getD j default) = true):l.all p = true:=by
 rw [List.all_eq_true]
 intro x hx
 obtain ⟨j,hj,rfl⟩:=List.getElem_of_mem hx
 have:=h j hj
 simpa only [List.getD,List.getElem?_eq_getElem hj,Option.getD_some] using this
def idx (p:α → Bool) (l:List α):Int:=match l.findIdx? p with | some i=>i | none=>-1
theorem vu (hi:i < l.length) (hb:∀ j,j < i → p (l.getD j default) = false) (h:p (l.getD i default) = true):idx p l = i:=by
 have:l.findIdx? p = some i:=by
  rw [List.findIdx?_eq_some_iff_getElem]
  refine ⟨hi, ?_,fun j hj=>?_⟩
  · simpa only [List.getD,List.getElem?_eq_getElem hi,Option.getD_some] using h
  have:=hb j hj
  simp only [List.getD,List.getElem?_eq_getElem (Nat.lt_trans hj hi),Option.getD_some] at this
  simp [this]
 simp [idx,this]
theorem tf (h:∀ j,j < l.length → p (l.getD j default) = false):idx p l = -1:=by
 have:l.findIdx? p = none:=by
  rw [List.findIdx?_eq_none_iff]
  intro x hx
  obtain ⟨j,hj,rfl⟩:=List.getElem_of_mem hx
  have:=h j hj
  simpa only [List.getD,List.getElem?_eq_getElem hj,Option.getD_some] using this
 simp [idx,this]
theorem ut {l l':List α} (hl:l.length = l'.length) (h:∀ j,j < l.length → l.getD j default = l'.getD j default):l = l':=by
 refine List.ext_getElem hl fun j h1 h2=>?_
 have:=h j h1
 simpa only [List.getD,List.getElem?_eq_getElem h1,List.getElem?_eq_getElem h2,Option.getD_some] using this
end
def HSt.app (a b:HSt):HSt:=⟨a.t ++ b.t,a.o ++ b.o⟩
theorem a05:∀ {a b l:List (Nat × Option HR)},xw a l → xw b l → xw (a ++ b) l
 | [],_,_,_,h=>h
 | (_,some _) :: _,_,_,h,k=>⟨h.1,a05 h.2 k⟩
 | (_,none) :: r,b,l,h,k=>a05 (a:=r) (b:=b) (l:=l) h k
theorem a0c:∀ {a b l:List (Nat × Option af)},a0t a l → a0t b l → a0t (a ++ b) l
 | [],_,_,_,h=>h
 | (_,some _) :: _,_,_,h,k=>⟨h.1,a0c h.2 k⟩
 | (_,none) :: r,b,l,h,k=>a0c (a:=r) (b:=b) (l:=l) h k
theorem Sub.app {a b st:HSt} (h:Sub a st) (k:Sub b st):Sub (a.app b) st:=⟨a05 h.1 k.1,a0c h.2 k.2⟩
section
variable {ro:Option Nat} {P:Program} {nt:Nat} {st:HSt} {Q:Exit → HSt → Prop}
theorem az {ι:Type} {body:Code} (K:HSt) (hK:Sub K st) (J:ι → HSt) (p:ι → Prop) (μ:ι → Nat) (i0:ι) (h0:p i0) (hs:Sub (J i0) st) (round:∀ i,p i → HW (ro:=ro) P nt body ((J i).app K) (adr (fun i=>(J i).app K) p μ i Q)):HW (ro:=ro) P nt (.loop body) st Q :=
 aer (fun i=>(J i).app K) p μ i0 h0 (hs.app hK) round
theorem df {ι:Type} {x y:Code} (K:HSt) (hK:Sub K st) (J:ι → HSt) (p:ι → Prop) (h1:HW (ro:=ro) P nt x st (agd (fun i=>(J i).app K) p Q)) (h2:∀ i,p i → HW (ro:=ro) P nt y ((J i).app K) Q):HW (ro:=ro) P nt (.seq x y) st Q :=
 yz (fun i=>(J i).app K) p h1 h2
theorem abv {c:Code} (K:HSt) (hK:Sub K st) (h:HW (ro:=ro) P nt c K Q):HW (ro:=ro) P nt c st Q:=abj K hK h
theorem ct {c:Code} (bx off id:Nat) (wr:Bool) {n s':Nat} {f':Nat → Nat → PV} {l:List HV} (s:Nat) (e:TypeId) (f:Nat → Nat → PV) (hs:0 < s) (hb:bs st.o bx = some (.box l)) (hl:l[off]? = some (.p (.sl n s' true f'))) (hco:CoP (.sl n s' true f') (.sl n s true f)) (hwr:wr = false ∨ n = 0) (hn:nq id st = true) (hne:Nat.beq bx id = false)
 (h:HW (ro:=ro) P nt c ⟨st.t,(bx,some (.box (bp l off [.ref id n]))) :: (id,some (.arr wr s e n f)) :: st.o⟩ Q):HW (ro:=ro) P nt c st Q:=fun w0 m0 a w hr=>by
 obtain ⟨hnm,hno⟩:=jb hn
 obtain ⟨cc,hold,hrr⟩:=hr
 have hbi:bx ≠ id:=by rintro rfl;simp at hne
 obtain ⟨b0,C0,e0,p1,p2,p3,p4,p5⟩:=hrr.objs bx _ hb
 obtain ⟨u,hu,hur⟩:=p5.get off _ hl
 have hx:bc cc.imm (.sl n s true f) u:=hco _ _ hur
 have hnm':n ≤ maxLen:=by obtain ⟨ad,cap,_,q1,q2,_⟩:=hx;omega
 have hfresh:=hrr.fresh id hnm hno (.arr wr s e n f) w u noB (Grw.refl w none) (fun b hb=>hb.elim) ⟨hs,hnm', .inr ⟨hwr,by simp,by simpa using hx⟩⟩
 rw [← yw] at hfresh
 have hb':(HSt.den ⟨st.t,(id,some (.arr wr s e n f)) :: st.o⟩).o bx = some (.box l):=by
  simp only [HSt.den,be,hbi,if_false];exact hb
 refine h w0 m0 a w ?_
 have hevo:∀ (c1:Ctx),c1.own = (fun k=>if k = id then u else cc.own k) → Evo { old:=cc.old,imm:=cc.imm,tab:=cc.tab,own:=fun k=>if k = id then u else cc.own k,blk:=fun k=>if k = id then noB else cc.blk k,rows:=cc.rows } (HSt.den ⟨st.t,(id,some (.arr wr s e n f)) :: st.o⟩).o c1 ((HSt.den ⟨st.t,(id,some (.arr wr s e n f)) :: st.o⟩).setO bx (some (.box (bp l off [.ref id n])))).o bx:=fun c1 h1 =>
  .inr (.inl ⟨l,bp l off [.ref id n],hb',by simp [S.setO],by rw [h1]⟩)
 have hown:(fun k=>if k = bx then (fun k=>if k = id then u else cc.own k) bx else (fun k=>if k = id then u else cc.own k) k) = fun k=>if k = id then u else cc.own k:=by
  funext k
  by_cases hk:k = bx
  · subst hk;simp
  simp [hk]
 have hw:=hfresh.write bx (.box l) hb' (.box (bp l off [.ref id n])) w ((fun k=>if k = id then u else cc.own k) bx) ((fun k=>if k = id then noB else cc.blk k) bx) none (Grw.refl w _) (fun _ e=>by cases e) (hevo _ (by exact hown)) (fun b hb=>.inl hb) (by
  refine ⟨b0,C0,e0,by simpa [hbi] using p1,by simpa [hbi] using p2,p3,p4, ?_⟩
  have hoff:off < l.length:=(List.getElem?_eq_some_iff.1 hl).1
  have hcl:=p5.length
  refine bh.of_get ?_ fun k x u' hx' hu'=>?_
  · simp only [bp,List.length_append,List.length_take,List.length_drop,List.length_singleton];omega
  have hx2:=hx'
  unfold bp at hx2
  rw [cu l [HV.ref id n] off k (by simp;omega)] at hx2
  by_cases hk:k = off
  · subst hk
    simp at hx2
    subst hx2
    rw [hu] at hu'
    simp only [Option.some.injEq] at hu'
    subst hu'
    refine ⟨bc.oneCell hx,fun l2=>by simp [S.setO,HSt.den,be,Ne.symm hbi],fun ob1 s1 e1 n1 ho hd1=>?_⟩
    simp only [S.setO,HSt.den,be,Ne.symm hbi,if_false,if_true,Option.some.injEq] at ho
    subst ho
    simp only [af.dim,Option.some.injEq,Prod.mk.injEq] at hd1
    obtain ⟨rfl,rfl,rfl⟩:=hd1
    exact ⟨Nat.le_refl _,fun _=>by simp [Ne.symm hbi]⟩
  rw [if_neg (by simp;omega)] at hx2
  obtain ⟨u2,hu2,hr2⟩:=p5.get k x hx2
  rw [hu'] at hu2
  simp only [Option.some.injEq] at hu2
  subst hu2
  refine bq.evo (c:=cc) (o:=st.den.o) (Imm.le.refl cc.imm) (fun j hj=>?_) hr2
  have hji:j ≠ id:=by
   rintro rfl
   exact hnm.2.1 bx _ hb ⟨x,List.mem_of_getElem? hx2,hj⟩
  by_cases hjb:j = bx
  · subst hjb;exact .inr (.inl ⟨l,bp l off [.ref id n],hb,by simp [S.setO],by simp [hji]⟩)
  exact Evo.of_same (by simp [S.setO,hjb,HSt.den,be,hji]) (by simp [hjb,hji]))
 have e:HSt.den ⟨st.t,(bx,some (.box (bp l off [.ref id n]))) :: (id,some (.arr wr s e n f)) :: st.o⟩ = (HSt.den ⟨st.t,(id,some (.arr wr s e n f)) :: st.o⟩).setO bx (some (.box (bp l off [.ref id n]))):=by
  unfold HSt.den S.setO
  simp only [S.mk.injEq,true_and]
  funext k
  simp only [be]
 rw [e]
 exact ⟨_,(by exact hold),hw⟩
theorem adv {c:Code} (id:Nat) {ob:af} (ob':af) (ho:bs st.o id = some ob) (hc:CoO ob ob') (h:HW (ro:=ro) P nt c ⟨st.t,(id,some ob') :: st.o⟩ Q):HW (ro:=ro) P nt c st Q:=fun w0 m0 a w hr=>by
 obtain ⟨cc,hold,hrr⟩:=hr
 refine h w0 m0 a w ⟨cc,hold,hrr.relax _ (fun d x hx=>⟨x,hx,CoR.refl _⟩) fun k x hx=>?_⟩
 simp only [HSt.den,be] at hx
 split at hx
 · rename_i hk
   simp only [Option.some.injEq] at hx
   subst hk;subst hx
   exact ⟨ob,ho,hc⟩
 exact ⟨x,hx,CoO.refl _⟩
theorem jw {c:Code} (d:Nat) {n s:Nat} {cl:Bool} {f:Nat → Nat → PV} (hd:bs st.t d = some (cf (.sl n s cl f))) (h:n ≤ 9223372036854775807 → HW (ro:=ro) P nt c st Q):HW (ro:=ro) P nt c st Q:=fun w0 m0 a w hr=>by
 have hr':=hr
 obtain ⟨cc,hold,hrr⟩:=hr'
 obtain ⟨ad,cap,_,h1,h2,_⟩:=hrr.tmps d _ hd
 exact h (by simp only [maxLen] at h2;omega) w0 m0 a w hr
theorem wv {c:Code} (id off:Nat) {n s:Nat} {cl:Bool} {f:Nat → Nat → PV} {l:List HV} (hb:bs st.o id = some (.box l)) (hl:l[off]? = some (.p (.sl n s cl f))) (h:n ≤ 9223372036854775807 → HW (ro:=ro) P nt c st Q):HW (ro:=ro) P nt c st Q:=fun w0 m0 a w hr=>by
 have hr':=hr
 obtain ⟨cc,hold,hrr⟩:=hr'
 obtain ⟨b,C,e,_,_,_,_,q5⟩:=hrr.objs id _ hb
 obtain ⟨u,_,ad,cap,_,h1,h2,_⟩:=q5.get off _ hl
 exact h (by simp only [maxLen] at h2;omega) w0 m0 a w hr
theorem adq {c:Code} (id:Nat) {n s:Nat} {wr:Bool} {e:TypeId} {f:Nat → Nat → PV} (hb:bs st.o id = some (.arr wr s e n f)) (h:n ≤ 9223372036854775807 → HW (ro:=ro) P nt c st Q):HW (ro:=ro) P nt c st Q:=fun w0 m0 a w hr=>by
 have hr':=hr
 obtain ⟨cc,hold,hrr⟩:=hr'
 have:=(hrr.objs id _ hb).2.1
 exact h (by simp only [maxLen] at this;omega) w0 m0 a w hr
end
end
end Go.Hx

/- A part of the proof: Hx6 Hx7. -/
import Derived.Maps.AppendAt
import Derived.WideMake
import Derived.Test.YtdcdbghdgjlhhaaGreatOx04
set_option linter.all false
namespace Go.Hx
section
open Go.RowKit
section
variable {P:Program} {E:Env} {w0:World} {nt:Nat} {c:Ctx} {s:S} {a:Act} {w:World}
theorem a44 (hE:cr P E) (h:ak w0 nt c s a w) {t:TypeId} {x ix:Operand} {out:Out} (hq:qw E (ev s) t x ix = some out) (hp:out.pre) :
 ∃ v,(Instr.index t (a.eval x) (a.eval ix)).run P w = .ok v w ∧ ax c s.o out.val v:=by
 unfold qw at hq
 split at hq <;> try (cases hq;done)
 rename_i ti b k i hti hx hix
 split at hq <;> try (cases hq;done)
 rename_i hk
 simp only [Option.some.injEq] at hq
 subst hq
 obtain ⟨e1,_⟩:=ai h hx
 obtain ⟨e2,_⟩:=ai h hix
 obtain ⟨ii,d,h1,h2,h3,_⟩:=bd (hE t ti hti)
 have:d = .string:=by cases d <;> simp_all [fy]
 subst this
 rw [e1,e2]
 refine ⟨_, ?_,dp rfl⟩
 have hlt:i.toNat < b.size:=by have:=hp.2;have:=hp.1;omega
 have hb:b[i.toNat]? = some b[i.toNat]:=by simp [hlt]
 have hv:da b i.toNat = ((b[i.toNat].toNat:Nat):Int):=by
  unfold da
  have h2:i.toNat < b.data.toList.length:=by simpa using hlt
  rw [List.getD_eq_getElem?_getD,List.getElem?_eq_getElem h2]
  rfl
 have hp0:0 ≤ i:=hp.1
 simp only [Instr.index,asIntOf,Sem.run_bind,Sem.run_pure,Result.andThen_ok,run_underlying h2,hp0,if_true,hb,hv]
theorem a2c (h:ak w0 nt c s a w) {x:Operand} {i:Nat} {out:Out} (hq:mt (ev s) x i = some out) :
 ∃ v,(Instr.extract (a.eval x) i).run P w = .ok v w ∧ ax c s.o out.val v:=by
 unfold mt at hq
 split at hq <;> try (cases hq;done)
 rename_i l hx
 split at hq <;> try (cases hq;done)
 rename_i cc hi
 simp only [Option.some.injEq] at hq
 subst hq
 obtain ⟨us,e1,hl⟩:=ai h hx
 obtain ⟨u,hu,hr⟩:=hl.get i cc hi
 rw [e1]
 exact ⟨u,by simp [Instr.extract,hu],hr⟩
theorem a6r (hE:cr P E) (h:ak w0 nt c s a w) {b:Builtin} {args:List Operand} {tys:List TypeId} {ty:TypeId} {cs:Array Bool} {out:Out}
 (hq:nb E (ev s) b args tys = some out):∃ v,(builtin b tys.toArray ty cs (args.map a.eval).toArray).run P w = .ok (.value v) w ∧ ax c s.o out.val v:=by
 unfold nb at hq
 split at hq <;> try (cases hq;done)
 · rename_i x t tr
   split at hq <;> try (cases hq;done)
   rename_i ti hti
   obtain ⟨ii,d,h1,h2,h3,_⟩:=bd (hE t ti hti)
   split at hq <;> try (cases hq;done)
   · rename_i hk hx
     simp only [Option.some.injEq] at hq
     subst hq
     obtain ⟨e1,_⟩:=ai h hx
     have:d = .string:=by cases d <;> simp_all [fy]
     subst this
     refine ⟨_, ?_,dp rfl⟩
     simp [builtin,Builtin.len_,e1,run_underlying h2,goInt]
   rename_i el hk hx
   simp only [Option.some.injEq] at hq
   subst hq
   obtain ⟨ad,cap,e1,_⟩:=ai h hx
   obtain rfl:=du (h3.symm.trans hk)
   refine ⟨_, ?_,dp rfl⟩
   simp [builtin,Builtin.len_,e1,run_underlying h2,goInt]
 · rename_i x y _
   split at hq <;> try (cases hq;done)
   rename_i k p kk q hx hy
   simp only [Option.some.injEq] at hq
   subst hq
   obtain ⟨e1,_⟩:=ai h hx
   obtain ⟨e2,_⟩:=ai h hy
   refine ⟨_, ?_,dp rfl⟩
   simp [builtin,Builtin.min_,e1,e2,Builtin.min2]
 rename_i x y _
 split at hq <;> try (cases hq;done)
 rename_i k p kk q hx hy
 simp only [Option.some.injEq] at hq
 subst hq
 obtain ⟨e1,_⟩:=ai h hx
 obtain ⟨e2,_⟩:=ai h hy
 refine ⟨_, ?_,dp rfl⟩
 simp [builtin,Builtin.max_,e1,e2,Builtin.max2]
theorem a2r (hE:cr P E) (h:ak w0 nt c s a w) {b:Builtin} {args:List Operand} {tys:List TypeId} {ty:TypeId} {cs:Array Bool} {out:Out}
 (hq:o7 E s.o (ev s) b args tys = some out) (hp:out.pre):∃ v,(builtin b tys.toArray ty cs (args.map a.eval).toArray).run P w = .ok (.value v) w ∧ ax c s.o out.val v:=by
 unfold o7 at hq
 split at hq <;> try (cases hq;done)
 rename_i x t tr
 split at hq <;> try (cases hq;done)
 rename_i ti hti
 obtain ⟨ii,d,h1,h2,h3,_⟩:=bd (hE t ti hti)
 split at hq <;> try (cases hq;done)
 rename_i el hk
 split at hq <;> try (cases hq;done)
 rename_i hv0 hx
 unfold xv at hq
 split at hq <;> try (cases hq;done)
 · rename_i id n
   have key:∀ (ob:af) (sz:Nat) (e:TypeId) (n':Nat),s.o id = some ob → ob.dim = some (sz,e,n') → (∃ ad cap,c.own id = .slice ad n' cap ∧ n' ≤ cap ∧ cap ≤ maxLen) → n' = n →
    ∃ v,(builtin .len (t :: tr).toArray ty cs ([x].map a.eval).toArray).run P w = .ok (.value v) w ∧ ax c s.o (cf (.raw (.int .i64 n))) v:=by
    rintro ob sz e n' ho hdm hany rfl
    obtain ⟨_,_,h3'⟩:=ai h hx
    obtain ⟨_,hown⟩:=h3' _ _ _ _ ho hdm
    have hu:=hown rfl
    obtain rfl:=du (h3.symm.trans hk)
    obtain ⟨ad,cap,hv,_⟩:=hany
    rw [hv] at hu
    refine ⟨_, ?_,dp rfl⟩
    simp [builtin,Builtin.len_,hu,run_underlying h2,goInt]
   split at hq <;> try (cases hq;done)
   · rename_i wr sz e n' f ho
     simp only [Option.some.injEq] at hq
     subst hq
     exact key _ _ _ _ ho rfl (a2g (h.objs id _ ho)) hp
   · rename_i sz e n' ms f ho
     simp only [Option.some.injEq] at hq
     subst hq
     exact key _ _ _ _ ho rfl (a0m (h.objs id _ ho)) hp
   rename_i e et es n' m g ho
   simp only [Option.some.injEq] at hq
   subst hq
   refine key _ _ _ _ ho rfl ?_ hp
   obtain ⟨ad,cap,q1,q2,q3,_⟩:=a0r (h.objs id _ ho)
   exact ⟨ad,cap,q1,q2,q3⟩
 · rename_i id i k
   split at hq <;> try (cases hq;done)
   rename_i e et es n m g pd ho
   simp only [Option.some.injEq] at hq
   subst hq
   obtain ⟨hi,rfl⟩:=hp
   obtain ⟨_,h3'⟩:=ai h hx
   obtain ⟨_,_,hrow⟩:=h3' _ _ _ _ _ _ _ ho
   have hu:=hrow rfl
   obtain rfl:=du (h3.symm.trans hk)
   obtain ⟨ad,cap,hv,_⟩:=a9m (h.objs id _ ho) hi
   rw [hv] at hu
   refine ⟨_, ?_,dp rfl⟩
   simp [builtin,Builtin.len_,hu,run_underlying h2,goInt]
 rename_i id n wi wm
 have key:∀ (ob:af) (sz:Nat) (e:TypeId) (n':Nat),s.o id = some ob → ob.dim = some (sz,e,n') → (∃ ad cap,c.own id = .slice ad n' cap ∧ n' ≤ cap ∧ cap ≤ maxLen) → n' = n →
  ∃ v,(builtin .len (t :: tr).toArray ty cs ([x].map a.eval).toArray).run P w = .ok (.value v) w ∧ ax c s.o (cf (.raw (.int .i64 wm))) v:=by
  rintro ob sz e n' ho hdm hany rfl
  obtain ⟨_,_,h3'⟩:=ai h hx
  obtain ⟨_,hown⟩:=h3' _ _ _ _ ho hdm
  obtain ⟨_,_,_,_,hu,_⟩:=hown rfl
  obtain rfl:=du (h3.symm.trans hk)
  refine ⟨_, ?_,dp rfl⟩
  simp [builtin,Builtin.len_,hu,run_underlying h2,goInt]
 split at hq <;> try (cases hq;done)
 · rename_i wr sz e n' f ho
   simp only [Option.some.injEq] at hq
   subst hq
   exact key _ _ _ _ ho rfl (a2g (h.objs id _ ho)) hp
 rename_i sz e n' ms f ho
 simp only [Option.some.injEq] at hq
 subst hq
 exact key _ _ _ _ ho rfl (a0m (h.objs id _ ho)) hp
theorem zt (h:ak w0 nt c s a w):∀ {xs:List Operand} {l:List PV},ta (ev s) xs = some l → eb c.imm l (xs.map a.eval)
 | [],l,hl=>by simp [ta] at hl;subst hl;trivial
 | x :: xs,l,hl=>by
  simp only [ta] at hl
  split at hl <;> try (cases hl;done)
  rename_i y l' hx hr
  simp only [Option.some.injEq] at hl
  subst hl
  exact ⟨ai h hx,zt h hr⟩
theorem zh (h:ak w0 nt c s a w):∀ {xs:List Operand} {l:List HV},t6 (ev s) xs = some l → bh c s.o l (xs.map a.eval)
 | [],l,hl=>by simp [t6] at hl;subst hl;trivial
 | x :: xs,l,hl=>by
  simp only [t6] at hl
  split at hl <;> try (cases hl;done)
  rename_i y l' hx hr
  simp only [Option.some.injEq] at hl
  subst hl
  exact ⟨ai h hx,zh h hr⟩
theorem x2 {c:Ctx} {o:aw}:∀ {l:List HV} {us:List Value} {ps:List PV},bh c o l us → ig l = some ps → eb c.imm ps us
 | [],[],ps,_,h=>by simp [ig] at h;subst h;trivial
 | .p x :: r,u :: us,ps,hr,h=>by
  simp only [ig] at h
  split at h <;> try (cases h;done)
  rename_i l hl
  simp only [Option.some.injEq] at h
  subst h
  exact ⟨hr.1,x2 hr.2 hl⟩
 | .ref _ _ :: _,_,_,_,h=>by simp [ig] at h
 | .ptr _ _ :: _,_,_,_,h=>by simp [ig] at h
 | .eptr _ _ _ _ :: _,_,_,_,h=>by simp [ig] at h
 | .win _ _ _ _ :: _,_,_,_,h=>by simp [ig] at h
 | .clo _ _ _ :: _,_,_,_,h=>by simp [ig] at h
 | .row _ _ _ :: _,_,_,_,h=>by simp [ig] at h
 | .rptr _ _ _ _ _ :: _,_,_,_,h=>by simp [ig] at h
 | .pin _ _ _ _ :: _,_,_,_,h=>by simp [ig] at h
 | [],_ :: _,_,hr,_=>hr.elim
 | .p _ :: _,[],_,hr,_=>hr.elim
theorem a61 (h:ak w0 nt c s a w) {fn:Fn} {first caps:Array Operand} {out:Out} (hq:v5 (ev s) fn first.toList caps.toList = some out) :
 ∃ v,(Instr.makeFunc fn (first.map a.eval) (caps.map a.eval)).run P w = .ok v w ∧ ax c s.o out.val v:=by
 unfold v5 at hq
 split at hq <;> try (cases hq;done)
 rotate_left
 · rename_i f x hfirst
   split at hq <;> try (cases hq;done)
   rename_i hs hcaps hx
   split at hq <;> try (cases hq;done)
   rename_i l hl
   simp only [Option.some.injEq] at hq
   subst hq
   have hf:first = #[x]:=by
    grind
   have hc:caps = #[]:=by
    grind
   subst hf hc
   obtain ⟨us,e1,hr⟩:=ai h hx
   have hp:=x2 hr hl
   refine ⟨.func (.func f) #[.agg us.toArray] #[],by simp [Instr.makeFunc,e1],us,rfl,hp.length,fun i hi=>?_⟩
   obtain ⟨u,hu,hrr⟩:=hp.get i l[i] (List.getElem?_eq_getElem hi)
   grind
 rename_i f hfirst
 have hf:first = #[]:=by
  grind
 subst hf
 split at hq
 rotate_left
 · split at hq <;> try (cases hq;done)
   rename_i l hl
   simp only [Option.some.injEq] at hq
   subst hq
   have hr:=zh h hl
   refine ⟨.func (.func f) #[] (caps.map a.eval),by simp [Instr.makeFunc],caps.toList.map a.eval,by rw [← Array.toList_map,Array.toArray_toList],by rw [hr.length],fun i hi=>?_⟩
   obtain ⟨u,hu,hrr⟩:=hr.get i l[i] (List.getElem?_eq_getElem hi)
   grind
 rename_i l hl
 simp only [Option.some.injEq] at hq
 subst hq
 have hr:=zt h hl
 refine ⟨.func (.func f) #[] (caps.map a.eval),by simp [Instr.makeFunc],caps.toList.map a.eval,by rw [← Array.toList_map,Array.toArray_toList],by rw [hr.length],fun i hi=>?_⟩
 obtain ⟨u,hu,hrr⟩:=hr.get i l[i] (List.getElem?_eq_getElem hi)
 grind
theorem a6x {o:Oper} {x:Operand} (ho:o.op = .nilCheck x) (h:ak w0 nt c s a w) {out:Out} (hq:mh s.o (ev s) x = some out) (hp:out.pre) :
 ∃ v,(execOp a.eval o).run P w = .ok (.value v) w ∧ ax c s.o out.val v:=by
 unfold mh at hq
 split at hq <;> try (cases hq;done)
 · rename_i g k cc hx
   simp only [Option.some.injEq] at hq
   subst hq
   obtain ⟨cs,e1,h2,h3⟩:=ai h hx
   refine ⟨_, ?_,cs,e1,h2,h3⟩
   unfold execOp
   simp [ho,e1]
 · rename_i g k cc hx
   simp only [Option.some.injEq] at hq
   subst hq
   obtain ⟨cs,e1,h2,h3⟩:=ai h hx
   refine ⟨_, ?_,cs,e1,h2,h3⟩
   unfold execOp
   simp [ho,e1]
 rename_i hh _ _ hx
 split at hq <;> try (cases hq;done)
 rename_i p _ _ ht
 simp only [Option.some.injEq] at hq
 subst hq
 have hu:=ai h hx
 obtain ⟨ad,e1,_⟩:=pk h hu ht hp
 refine ⟨_, ?_,hu⟩
 unfold execOp
 simp [ho,e1]
theorem ui (hE : cr P E) : ∀ (fs : List Field) (l : List (Nat × Nat)), sa E (fs.map fun f => (f.offset, f.type, f.name == "_")) = some l →
 fs.mapM (fun f=>(P.info? f.type).map fun i=>(f.offset,i.size)) = some l
 | [],l,h=>by simp [sa] at h;subst h;rfl
 | f :: fs,l,h=>by
  simp only [List.map_cons,sa] at h
  split at h <;> try (cases h;done)
  rename_i fi l' hfi hr
  simp only [Option.some.injEq] at h
  subst h
  obtain ⟨ii,d,h1,h2,h3,h4,_⟩:=bd (hE _ _ hfi)
  simp [List.mapM_cons,h1,h4,ui hE fs l' hr]
theorem xo (o:Nat):∀ (vs:List Value) (i:Nat) (cs:List Value),o + i + vs.length ≤ cs.length →
 (vs.zipIdx i).foldl (fun (cs:Array Value) (p:Value × Nat)=>cs.setIfInBounds (o + p.2) p.1) cs.toArray = (cs.take (o + i) ++ vs ++ cs.drop (o + i + vs.length)).toArray
 | [],i,cs,_=>by simp
 | v :: vs,i,cs,h=>by
  simp only [List.zipIdx_cons,List.foldl_cons]
  have hset:(cs.toArray.setIfInBounds (o + i) v) = (cs.set (o + i) v).toArray:=by simp
  rw [hset,xo o vs (i + 1) (cs.set (o + i) v) (by simp at h ⊢;omega)]
  congr 1
  have h':o + i + (vs.length + 1) ≤ cs.length:=by simpa using h
  apply List.ext_getElem?
  intro j
  simp only [List.getElem?_append,List.length_take,List.length_set,List.length_append,List.length_cons,List.getElem?_take,List.getElem?_drop,List.getElem?_set]
  grind
theorem ji {o:aw} {x:HC} {u:Value} (h:dq c o x u):bh c o x.cells u.cells.toList ∧ (x.cells.length = u.cells.size):=by
 cases x with
 | one h1 =>
  have hone:=bq.oneCell (c:=c) (o:=o) (h:=h1) h
  have:u.cells = #[u]:=by cases u <;> simp_all [Value.cells,Value.oneCell']
  rw [this]
  exact ⟨⟨h,trivial⟩,rfl⟩
 | agg l =>
  obtain ⟨us,rfl,hl⟩:=h
  exact ⟨by simpa [Value.cells,HC.cells] using hl,by simp [Value.cells,HC.cells,hl.length]⟩
theorem oo (h:ak w0 nt c s a w) (places:List (Nat × Nat)):∀ (parts:List (Nat × Operand)) (cells:List HV) (us:List Value) (l:List HV),bh c s.o cells us → fv (ev s) places cells parts = some l →
 ∃ vs:List Value,Instr.fill (fun i=>places[i]?) us.toArray (parts.map fun p=>(p.1,a.eval p.2)) = some vs.toArray ∧ bh c s.o l vs
 | [],cells,us,l,hc,hf=>by
  simp only [fv,Option.some.injEq] at hf
  subst hf
  exact ⟨us,by simp [Instr.fill],hc⟩
 | (i,x) :: r,cells,us,l,hc,hf=>by
  simp only [fv] at hf
  split at hf <;> try (cases hf;done)
  rename_i off size cc hpl hx
  split at hf <;> try (cases hf;done)
  rename_i h1 h2
  have h1:=of_decide_eq_true h1
  have h2:=of_decide_eq_true h2
  have hu:dq c s.o cc (a.eval x):=ai h hx
  obtain ⟨hcl,hsz⟩:=ji hu
  have hlen:=hc.length
  have hset:bh c s.o (bp cells off cc.cells) (us.take off ++ (a.eval x).cells.toList ++ us.drop (off + cc.cells.length)):=((hc.take off).append hcl).append (hc.drop _)
  obtain ⟨vs,hv,hr⟩:=oo h places r _ _ l hset hf
  refine ⟨vs, ?_,hr⟩
  simp only [List.map_cons,Instr.fill,hpl]
  have hb:((a.eval x).cells.size ≠ size || off + (a.eval x).cells.size > us.toArray.size) = false:=by
   grind
  have hb':¬ (decide ((a.eval x).cells.size ≠ size) || decide (off + (a.eval x).cells.size > us.toArray.size)) = true:=by
   grind
  rw [if_neg hb']
  have hfold:=xo off (a.eval x).cells.toList 0 us (by simp;omega)
  simp only [Nat.add_zero,Array.length_toList] at hfold
  have hz:(a.eval x).cells.zipIdx.foldl (fun cs (p:Value × Nat)=>cs.setIfInBounds (off + p.2) p.1) us.toArray = ((a.eval x).cells.toList.zipIdx 0).foldl (fun (cs:Array Value) (p:Value × Nat)=>cs.setIfInBounds (off + p.2) p.1) us.toArray:=by
   rw [← Array.foldl_toList]
   simp
  grind
theorem a40 {f g:Nat → Option (Nat × Nat)} (hfg:∀ i p,f i = some p → g i = some p):∀ {parts:List (Nat × Value)} {cells out:Array Value},Instr.fill f cells parts = some out → Instr.fill g cells parts = some out
 | [],_,_,h=>h
 | (i,v) :: r,cells,out,h=>by
  unfold Instr.fill at h ⊢
  cases hp:f i with
  | none=>rw [hp] at h;cases h
  | some p =>
   obtain ⟨off,size⟩:=p
   rw [hp] at h
   rw [hfg i _ hp]
   dsimp only at h ⊢
   split at h
   · cases h
   rename_i hn
   rw [if_neg hn]
   exact a40 hfg h
theorem a46 (hE:cr P E) (h:ak w0 nt c s a w) {t:TypeId} {parts:Array (Nat × Operand)} {out:Out} (hq:qv E (ev s) t parts.toList = some out) :
 ∃ v,(Instr.build t (parts.map fun (i,x)=>(i,a.eval x))).run P w = .ok v w ∧ ax c s.o out.val v:=by
 unfold qv at hq
 split at hq <;> try (cases hq;done)
 rename_i i hi
 split at hq <;> try (cases hq;done)
 · rename_i fs z hk hz
   split at hq <;> try (cases hq;done)
   rename_i places hpl hone
   split at hq <;> try (cases hq;done)
   rename_i l hf
   simp only [Option.some.injEq] at hq
   subst hq
   obtain ⟨ii,d,h1,h2,h3,h4,h5,h6,_⟩:=bd (hE t i hi)
   obtain ⟨fa,rfl,hfa⟩:=ot (h3.symm.trans hk)
   rw [hfa] at hpl
   have hplaces:=ui hE fa.toList places hpl
   rw [hz] at h6
   cases hiz:ii.zero with
   | none=>rw [hiz] at h6;cases h6
   | some zv =>
    rw [hiz] at h6
    simp only [Option.map_some,Option.some.injEq] at h6
    obtain ⟨vs,hv,hr⟩:=oo h places parts.toList _ z l (nx c s.o z (gn hone)) hf
    refine ⟨.agg vs.toArray, ?_,vs,rfl,hr⟩;refine run_build w t _ vs.toArray ?_
    unfold Program.built
    simp_all
 rename_i n el z hk hz
 split at hq <;> try (cases hq;done)
 rename_i ie hie hone
 split at hq <;> try (cases hq;done)
 rename_i l hf
 simp only [Option.some.injEq] at hq
 subst hq
 obtain ⟨ii,d,h1,h2,h3,h4,h5,h6,_⟩:=bd (hE t i hi)
 obtain ⟨je,de,g1,g2,g3,g4,g5,g6,_⟩:=bd (hE el ie hie)
 have hd:=a1b (h3.symm.trans hk)
 subst hd
 rw [hz] at h6
 cases hiz:ii.zero with
 | none=>rw [hiz] at h6;cases h6
 | some zv =>
  rw [hiz] at h6
  simp only [Option.map_some,Option.some.injEq] at h6
  obtain ⟨vs,hv,hr⟩:=oo h _ parts.toList _ z l (nx c s.o z (gn hone)) hf
  have hv:=a40 (g:=fun k=>some (k * ie.size,ie.size)) (fun k p hp=>by
   rw [List.getElem?_map] at hp
   by_cases hk:k < n
   · grind
   rw [List.getElem?_eq_none (by simp;omega)] at hp;cases hp) hv
  refine ⟨.agg vs.toArray, ?_,vs,rfl,hr⟩;refine run_build w t _ vs.toArray ?_
  unfold Program.built
  simp_all
theorem ss (w:World) (d:Nat) (t e:TypeId) (ad:Option Addr) (l cp:Nat) (h:P.underlying t = some (.slice e)):(Op.equalIn (d + 1) t (.slice ad l cp) (.slice none 0 0)).run P w = .ok ad.isNone w:=by
 cases ad <;> simp [Op.equalIn,run_underlying h]
theorem a59 (w:World) (t e:TypeId) (ad:Option Addr) (l cp:Nat) (h:P.underlying t = some (.slice e)):(binOp .eql t (.slice ad l cp) (.slice none 0 0)).run P w = .ok (.bool ad.isNone) w:=by
 have h1:binOp .eql t (.slice ad l cp) (.slice none 0 0) = (Op.equal t (.slice ad l cp) (.slice none 0 0) >>= fun b=>pure (.bool b)):=by simp only [binOp]
 have h2:(Op.equal t (.slice ad l cp) (.slice none 0 0)).run P w = .ok ad.isNone w:=ss w 9999 t e ad l cp h
 simp_all
theorem a5h (w:World) (t e:TypeId) (ad:Option Addr) (l cp:Nat) (h:P.underlying t = some (.slice e)):(binOp .neq t (.slice ad l cp) (.slice none 0 0)).run P w = .ok (.bool (!ad.isNone)) w:=by
 have h1:binOp .neq t (.slice ad l cp) (.slice none 0 0) = (Op.equal t (.slice ad l cp) (.slice none 0 0) >>= fun b=>pure (.bool (!b))):=by simp only [binOp]
 have h2:(Op.equal t (.slice ad l cp) (.slice none 0 0)).run P w = .ok ad.isNone w:=ss w 9999 t e ad l cp h
 simp_all
theorem a38 (hE:cr P E) (h:ak w0 nt c s a w) {op:BinOp} {t:TypeId} {x y:Operand} {out:Out} (hq:oe E (ev s) op t x y = some out) (hp:out.pre) :
 ∃ v,(do eqGuard op t x y (a.eval x) (a.eval y);binOp op t (a.eval x) (a.eval y):Sem Value).run P w = .ok v w ∧ ax c s.o out.val v:=by
 unfold oe at hq
 split at hq <;> try (cases hq;done)
 split at hq <;> try (cases hq;done)
 rename_i i hi
 split at hq <;> try (cases hq;done)
 rename_i el hk
 obtain ⟨ii,d,h1,h2,h3,_⟩:=bd (hE t i hi)
 obtain rfl:=du (h3.symm.trans hk)
 have hg:∀ ad l cp,(eqGuard op t x (.const (.slice none 0 0)) (.slice ad l cp) (.slice none 0 0)).run P w = .ok () w:=by intro ad l cp;cases op <;> simp [eqGuard]
 have core:∀ ad l cp,a.eval x = .slice ad l cp → up op ad = some out → ∃ v,(do eqGuard op t x (.const (.slice none 0 0)) (a.eval x) (a.eval (.const (.slice none 0 0)));binOp op t (a.eval x) (a.eval (.const (.slice none 0 0))):Sem Value).run P w = .ok v w ∧ ax c s.o out.val v:=by
  intro ad l cp he hn
  have e2:a.eval (.const (.slice none 0 0)) = .slice none 0 0:=rfl
  rw [he,e2,Sem.run_bind,hg,Result.andThen_ok]
  cases op <;> simp only [up] at hn <;> try (cases hn;done)
  · simp only [Option.some.injEq] at hn;subst hn
    exact ⟨_,a59 w t el ad l cp h2,dp rfl⟩
  simp only [Option.some.injEq] at hn;subst hn
  exact ⟨_,a5h w t el ad l cp h2,dp rfl⟩
 split at hq <;> try (cases hq;done)
 · rename_i n sz cl f hx
   obtain ⟨ad,cap,e1,_,_,_,hc⟩:=ai h hx
   have hn:0 < n:=by
    cases op <;> simp only [a6h] at hq <;> first | (cases hq;done) | (simp only [Option.some.injEq] at hq;subst hq;exact hp)
   obtain ⟨b,off,rfl,_⟩:=hc hn
   refine core _ _ _ e1 ?_
   cases op <;> simp only [a6h] at hq <;> first | (cases hq;done) | skip
   · simp only [Option.some.injEq] at hq;subst hq
     have:(0 < n) = True:=by simp [hn]
     simp [up,this]
   simp only [Option.some.injEq] at hq;subst hq
   have:(0 < n) = True:=by simp [hn]
   simp [up,this]
 rename_i ad l cp hx
 obtain ⟨e1,_⟩:=ai h hx
 grind
theorem a64 {d:TypeDesc} {e:TypeId} (h:fy d = .pointer e):d = .pointer e:=by
 cases d <;> simp [fy] at h
 rw [h]
theorem sq (w:World) (d:Nat) (t e:TypeId) (p:Option Addr) (h:P.underlying t = some (.pointer e)):(Op.equalIn (d + 1) t (.pointer p) (.pointer none)).run P w = .ok p.isNone w:=by
 cases p <;> simp [Op.equalIn,run_underlying h]
theorem a54 (w:World) (t e:TypeId) (p:Option Addr) (h:P.underlying t = some (.pointer e)):(binOp .eql t (.pointer p) (.pointer none)).run P w = .ok (.bool p.isNone) w:=by
 have h1:binOp .eql t (.pointer p) (.pointer none) = (Op.equal t (.pointer p) (.pointer none) >>= fun b=>pure (.bool b)):=by simp only [binOp]
 have h2:(Op.equal t (.pointer p) (.pointer none)).run P w = .ok p.isNone w:=sq w 9999 t e p h
 simp_all
theorem a5c (w:World) (t e:TypeId) (p:Option Addr) (h:P.underlying t = some (.pointer e)):(binOp .neq t (.pointer p) (.pointer none)).run P w = .ok (.bool (!p.isNone)) w:=by
 have h1:binOp .neq t (.pointer p) (.pointer none) = (Op.equal t (.pointer p) (.pointer none) >>= fun b=>pure (.bool (!b))):=by simp only [binOp]
 have h2:(Op.equal t (.pointer p) (.pointer none)).run P w = .ok p.isNone w:=sq w 9999 t e p h
 simp_all
theorem a33 (hE:cr P E) (h:ak w0 nt c s a w) {op:BinOp} {t:TypeId} {x y:Operand} {out:Out} (hq:iu E s.o (ev s) op t x y = some out) (hp:out.pre) :
 ∃ v,(do eqGuard op t x y (a.eval x) (a.eval y);binOp op t (a.eval x) (a.eval y):Sem Value).run P w = .ok v w ∧ ax c s.o out.val v:=by
 unfold iu at hq
 split at hq <;> try (cases hq;done)
 split at hq <;> try (cases hq;done)
 rename_i i hi
 split at hq <;> try (cases hq;done)
 rename_i el hk
 obtain ⟨ii,d,h1,h2,h3,_⟩:=bd (hE t i hi)
 obtain rfl:=a64 (h3.symm.trans hk)
 have hg:∀ p,(eqGuard op t x (.const (.pointer none)) (.pointer p) (.pointer none)).run P w = .ok () w:=by intro p;cases op <;> simp [eqGuard]
 have core:∀ p,a.eval x = .pointer p → a1e op p.isNone = some out → ∃ v,(do eqGuard op t x (.const (.pointer none)) (a.eval x) (a.eval (.const (.pointer none)));binOp op t (a.eval x) (a.eval (.const (.pointer none))):Sem Value).run P w = .ok v w ∧ ax c s.o out.val v:=by
  intro p he hn
  have e2:a.eval (.const (.pointer none)) = .pointer none:=rfl
  rw [he,e2,Sem.run_bind,hg,Result.andThen_ok]
  cases op <;> simp only [a1e] at hn <;> try (cases hn;done)
  · simp only [Option.some.injEq] at hn;subst hn
    exact ⟨_,a54 w t el p h2,dp rfl⟩
  simp only [Option.some.injEq] at hn;subst hn
  exact ⟨_,a5c w t el p h2,dp rfl⟩
 split at hq <;> try (cases hq;done)
 rename_i hv hx
 have hr:=ai h hx
 unfold uk at hq
 split at hq <;> try (cases hq;done)
 · rename_i id off
   split at hq <;> try (cases hq;done)
   rename_i l hl
   obtain ⟨b,_,hu⟩:=hr.2.2 l hl
   grind
 rename_i p
 exact core p hr.1 hq
theorem a4x {o:Oper} {x0 x y:Operand} (ho:o.op = .pick x0 x y) (h:ak w0 nt c s a w) {out:Out} (hq:v3 (ev s) x0 x y = some out) (hp:out.pre) :
 ∃ v,(execOp a.eval o).run P w = .ok (.value v) w ∧ ax c s.o out.val v:=by
 unfold v3 at hq
 split at hq <;> try (cases hq;done)
 rename_i b hb
 obtain ⟨e1,_⟩:=ai h hb
 have hrun:(execOp a.eval o).run P w = .ok (.value (if b then a.eval x else a.eval y)) w:=by simp [execOp,ho,e1,asBool]
 refine ⟨_,hrun, ?_⟩
 unfold adw at hq
 split at hq
 · rename_i u v hx hy
   simp only [Option.some.injEq] at hq
   subst hq
   obtain ⟨e2,_⟩:=ai h hx
   obtain ⟨e3,_⟩:=ai h hy
   rw [e2,e3]
   cases b <;> exact ⟨rfl,rfl⟩
 · rename_i r hx hy
   simp only [Option.some.injEq] at hq
   subst hq
   have hp:b = true:=hp
   subst hp
   exact ai h hx
 · rename_i r _ hx hy
   simp only [Option.some.injEq] at hq
   subst hq
   have hp:b = true:=hp
   subst hp
   exact ai h hx
 · rename_i r hx hy
   simp only [Option.some.injEq] at hq
   subst hq
   have hp:b = false:=hp
   subst hp
   exact ai h hy
 · rename_i r _ _ hx hy
   simp only [Option.some.injEq] at hq
   subst hq
   have hp:b = false:=hp
   subst hp
   exact ai h hy
 · rename_i r r' _ _ _ hx hy
   cases b
   · simp only [Option.some.injEq] at hq
     subst hq
     exact ai h hy
   simp only [Option.some.injEq] at hq
   subst hq
   exact ai h hx
 cases hq
theorem a5l {k:TypeId} {ki:TI} (hE:cr P E) (hk:E k = some ki) {kk:KK} (hkk:a11 ki.k = some kk):Go.Maps.Keyed P k ∧ ∀ m,MK.ok kk m → ∃ l,keyOf P k m.val = some l:=by
 obtain ⟨ii,d,h1,h2,h3,_⟩:=bd (hE k ki hk)
 rw [h3] at hkk
 cases d <;> simp only [fy,a11] at hkk <;> try (cases hkk;done)
 · rename_i q
   simp only [Option.some.injEq] at hkk
   subst hkk
   refine ⟨Go.Maps.int_keyed h2,fun m hm=>?_⟩
   cases m with
   | i q' n =>
    obtain ⟨rfl,hw⟩:=hm
    exact ⟨_,Go.Maps.keyOf_int_mk h2 hw⟩
   | s b=>exact hm.elim
 simp only [Option.some.injEq] at hkk
 subst hkk
 refine ⟨Go.Maps.string_keyed h2,fun m hm=>?_⟩
 cases m with
 | i q' n=>exact hm.elim
 | s b=>exact ⟨_,Go.WideMaps.keyOf_string_mk h2 hm⟩
theorem a69 (hE:cr P E) {kt et t:TypeId} {kk:KK} {z:Value} (ht:P.underlying t = some (.map kt et)) (hlk:a4c E kt et = some (kk,z)) {b:Nat} {es:Array MapEntry} {clock:Nat} (q4:w.heap[b]? = some (.map es clock))
 (q5:Go.MapKept.Stamped es clock) (q7:es.size ≤ maxLen) {has:MK → Prop} {R:MK → Value → Prop} (q8:∀ x ∈ es.toList,∃ key,x.key = key.val ∧ has key ∧ R key x.val) (q9:∀ key,has key → MK.ok kk key ∧ ∃ x ∈ es.toList,x.key = key.val) {m:MK} (hok:MK.ok kk m) (cm:Bool) :
 z.oneCell' = true ∧ ((¬ has m ∧ (Instr.lookup t (.map (some b)) m.val cm).run P w = .ok (if cm then .tuple #[z, .bool false] else z) w) ∨
 ∃ v,has m ∧ R m v ∧ (Instr.lookup t (.map (some b)) m.val cm).run P w = .ok (if cm then .tuple #[v, .bool true] else v) w):=by
 unfold a4c at hlk
 split at hlk <;> try (cases hlk;done)
 rename_i ki ei hki hei
 split at hlk <;> try (cases hlk;done)
 rename_i kk2 z2 e1 e2 e3
 simp only [Option.some.injEq,Prod.mk.injEq] at hlk
 obtain ⟨rfl,rfl⟩:=hlk
 obtain ⟨hz,hz1⟩:=aaj (hE et ei hei) e3 e2 w
 obtain ⟨K,hkey⟩:=a5l hE hki e1
 obtain ⟨l,hl⟩:=hkey m hok
 refine ⟨hz1, ?_⟩
 rcases ac8 cm K ht hz q4 q7 q5 (fun x hx=>by
  obtain ⟨key,r1,r2,_⟩:=q8 x hx
  rw [r1]
  exact hkey key (q9 key r2).1) hl with ⟨hrun,hno⟩ | ⟨e0,he0,hk0,hrun⟩
 · grind
 obtain ⟨key,r1,r2,r3⟩:=q8 e0 he0
 have hkm:key = m:=MK.val_inj (r1.symm.trans hk0)
 grind
theorem a2s (hE:cr P E) (h:ak w0 nt c s a w) {t:TypeId} {x ix:Operand} {cm:Bool} {out:Out} (hq':io E s.o (ev s) t x ix cm = some out) (hp:out.pre) :
 ∃ v,(Instr.lookup t (a.eval x) (a.eval ix) cm).run P w = .ok v w ∧ ax c s.o out.val v:=by
 unfold io at hq'
 split at hq' <;> try (cases hq';done)
 rename_i i hi
 split at hq' <;> try (cases hq';done)
 rename_i kt et hmk
 split at hq' <;> try (cases hq';done)
 rename_i kk z hlk
 split at hq' <;> try (cases hq';done)
 rename_i kv hix
 split at hq' <;> try (cases hq';done)
 rename_i m hm
 split at hq' <;> try (cases hq';done)
 rename_i hv hx
 obtain ⟨ii,d,h1,h2,h3,_⟩:=bd (hE t i hi)
 have ht:P.underlying t = some (.map kt et):=by
  rw [h2]
  have h4:=h3.symm.trans hmk
  cases d <;> simp [fy] at h4
  grind
 obtain ⟨hu2,_⟩:=ai h hix
 have hmv:=a4m hm
 rw [hu2,← hmv]
 unfold a16 at hq'
 split at hq' <;> try (cases hq';done)
 · rename_i kk' n has f
   have hp':kk' = kk ∧ MK.ok kk m:=by
    grind
   obtain ⟨rfl,hok⟩:=hp'
   obtain ⟨b,es,clock,q1,q4,q5,q6,q7,q8,q9⟩:=ai h hx
   rw [q1]
   obtain ⟨hz1,⟨hno,hrun⟩ | ⟨v,hyes,hR,hrun⟩⟩:=a69 (has:=fun k=>has k = true) (R:=fun k v=>bc c.imm (f k) v) hE ht hlk (h.imm _ _ q4) q5 q7 q8 q9 hok cm
   · refine ⟨_,hrun, ?_⟩
     have hat:ul has f m z = js z:=by unfold ul;rw [Bool.not_eq_true _ |>.mp hno]
     rw [hat] at hq'
     cases cm with
     | true =>
      simp only [Option.some.injEq] at hq'
      subst hq'
      rw [Bool.not_eq_true _ |>.mp hno]
      exact ⟨[z, .bool false],rfl,jz _ _ hz1,⟨rfl,rfl⟩,trivial⟩
     | false =>
      simp only [Option.some.injEq] at hq'
      subst hq'
      exact jz _ _ hz1
   refine ⟨_,hrun, ?_⟩
   have hat:ul has f m z = f m:=by unfold ul;rw [hyes]
   rw [hat] at hq'
   cases cm with
   | true =>
    simp only [Option.some.injEq] at hq'
    subst hq'
    rw [hyes]
    exact ⟨[v, .bool true],rfl,hR,⟨rfl,rfl⟩,trivial⟩
   | false =>
    simp only [Option.some.injEq] at hq'
    subst hq'
    exact hR
 rename_i id k0
 split at hq' <;> try (cases hq';done)
 rename_i kk' n f hob
 obtain ⟨b,es,clock,q1,q2,q3,q4,q5,q6,q7,q8,q9⟩:=h.objs id _ hob
 obtain ⟨_,_,g3⟩:=ai h hx
 obtain ⟨g4,g5⟩:=g3 _ _ _ _ hob rfl
 have hu:a.eval x = .map (some b):=by rw [g5 (by omega),q1]
 have hp':kk' = kk ∧ MK.ok kk m:=by
  grind
 obtain ⟨rfl,hok⟩:=hp'
 rw [hu]
 obtain ⟨hz1,⟨hno,hrun⟩ | ⟨v,_,⟨y,hy,hR⟩,hrun⟩⟩:=a69 (has:=fun k=>f k ≠ none) (R:=fun k v=>∃ y,f k = some y ∧ bc c.imm y v) hE ht hlk q4 q5 q7
  (fun x hx=>by
   obtain ⟨key,y,r1,r2,r3⟩:=q8 x hx
   exact ⟨key,r1,by rw [r2];simp,y,r2,r3⟩)
  (fun key hk=>by
   cases hf:f key with
   | none=>exact absurd hf hk
   | some y=>exact q9 key y hf) hok cm
 · have hf:f m = none:=Classical.not_not.1 hno
   have hat:z3 f m z = js z:=by unfold z3;rw [hf]
   have hhas:xg f m = false:=by unfold xg;rw [hf]
   refine ⟨_,hrun, ?_⟩
   cases cm with
   | true =>
    simp only [Option.some.injEq] at hq'
    subst hq'
    rw [hat,hhas]
    exact ⟨[z, .bool false],rfl,jz _ _ hz1,⟨rfl,rfl⟩,trivial⟩
   | false =>
    simp only [Option.some.injEq] at hq'
    subst hq'
    rw [hat]
    exact jz _ _ hz1
 have hat:z3 f m z = y:=by unfold z3;rw [hy]
 have hhas:xg f m = true:=by unfold xg;rw [hy]
 refine ⟨_,hrun, ?_⟩
 cases cm with
 | true =>
  simp only [Option.some.injEq] at hq'
  subst hq'
  rw [hat,hhas]
  exact ⟨[v, .bool true],rfl,hR,⟨rfl,rfl⟩,trivial⟩
 | false =>
  simp only [Option.some.injEq] at hq'
  subst hq'
  rw [hat]
  exact hR
theorem a5a (hE:cr P E) {ex:Bool} (h:ak w0 nt c s a w) {o:Oper} {out:Out} (hq':hq E ex s.o (ev s) o.op = some out) (hp:out.pre) :
 ∃ v,(execOp a.eval o).run P w = .ok (.value v) w ∧ ax c s.o out.val v:=by
 cases ho:o.op <;> rw [ho] at hq' <;> simp only [hq] at hq' <;> try (cases hq';done)
 case move x =>
  cases hx:ev s x with
  | none=>rw [hx] at hq';cases hq'
  | some r =>
   rw [hx] at hq'
   simp only [Option.map_some,Option.some.injEq] at hq'
   subst hq'
   exact ⟨_,by simp [execOp,ho],ai h hx⟩
 case assign x =>
  cases hx:ev s x with
  | none=>rw [hx] at hq';cases hq'
  | some r =>
   rw [hx] at hq'
   simp only [Option.map_some,Option.some.injEq] at hq'
   subst hq'
   exact ⟨_,by simp [execOp,ho],ai h hx⟩
 case pick cc x y=>exact a4x ho h hq' hp
 case nilCheck x=>exact a6x ho h hq' hp
 case load t x =>
  obtain ⟨v,h1,h2⟩:=yh hE h hq' hp
  exact ⟨v,by simp [execOp,ho,h1],h2⟩
 case fieldAddr t x k =>
  obtain ⟨v,h1,h2⟩:=ze hE h hq' hp
  exact ⟨v,by simp [execOp,ho,h1],h2⟩
 case field t x k =>
  obtain ⟨v,h1,h2⟩:=a49 hE h hq'
  exact ⟨v,by simp [execOp,ho,h1],h2⟩
 case indexAddr t x i =>
  obtain ⟨v,h1,h2⟩:=zc hE h hq' hp
  exact ⟨v,by simp [execOp,ho,h1],h2⟩
 case lookup t x i cm =>
  obtain ⟨v,h1,h2⟩:=a2s hE h hq' hp
  exact ⟨v,by simp [execOp,ho,h1],h2⟩
 case index t x i =>
  obtain ⟨v,h1,h2⟩:=a44 hE h hq' hp
  exact ⟨v,by simp [execOp,ho,h1],h2⟩
 case binOp op t x y ty =>
  obtain ⟨v,h1,h2⟩:∃ v,(do eqGuard op t x y (a.eval x) (a.eval y);binOp op t (a.eval x) (a.eval y):Sem Value).run P w = .ok v w ∧ ax c s.o out.val v:=by
   split at hq'
   · rename_i r hr
     simp only [Option.some.injEq] at hq'
     subst hq'
     exact a38 hE h hr hp
   split at hq'
   · rename_i r hr
     simp only [Option.some.injEq] at hq'
     subst hq'
     exact a33 hE h hr hp
   exact a70 hE h hq' hp
  refine ⟨v, ?_,h2⟩
  unfold execOp
  simp only [ho]
  rw [Sem.run_bind,h1]
  rfl
 case unOp op t x =>
  obtain ⟨v,h1,h2⟩:=a95 (P:=P) h hq' hp
  exact ⟨v,by simp [execOp,ho,h1],h2⟩
 case convert src dst x =>
  obtain ⟨v,h1,h2⟩:=a4u hE h hq' hp
  exact ⟨v,by simp [execOp,ho,h1],h2⟩
 case extract x i =>
  obtain ⟨v,h1,h2⟩:=a2c (P:=P) h hq'
  exact ⟨v,by simp [execOp,ho,h1],h2⟩
 case slice t x lo hi mx =>
  obtain ⟨v,h1,h2⟩:∃ v,(Instr.sliceAt t (a.eval x) (lo.map a.eval) (hi.map a.eval) (mx.map a.eval)).run P w = .ok v w ∧ ax c s.o out.val v:=by
   split at hq'
   · rename_i r hr
     simp only [Option.some.injEq] at hq'
     subst hq'
     exact x6 hE h hr hp
   exact a6w hE h hq' hp
  exact ⟨v,by simp [execOp,ho,h1],h2⟩
 case makeFunc fn first caps =>
  obtain ⟨v,h1,h2⟩:=a61 (P:=P) h hq'
  exact ⟨v,by simp [execOp,ho,h1],h2⟩
 case build t parts =>
  obtain ⟨v,h1,h2⟩:=a46 hE h hq'
  exact ⟨v,by simp [execOp,ho,h1],h2⟩
 case call cl =>
  split at hq' <;> try (cases hq';done)
  rename_i b hb
  have hrun:∀ v,(builtin b cl.argTypes o.type (cl.args.map fun | .const _=>true | _=>false) (cl.args.map a.eval)).run P w = .ok (.value v) w → (execOp a.eval o).run P w = .ok (.value v) w:=by
   intro v hv
   unfold execOp
   simp only [ho,resolve,hb,Sem.run_bind,Sem.run_pure,Result.andThen_ok,invoke]
   exact hv
  split at hq'
  · rename_i r hr
    simp only [Option.some.injEq] at hq'
    subst hq'
    obtain ⟨v,h1,h2⟩:=a6r (ty:=o.type) (cs:=cl.args.map fun | .const _=>true | _=>false) hE h hr
    exact ⟨v,hrun v (by rw [← Array.toList_map,Array.toArray_toList,Array.toArray_toList] at h1;exact h1),h2⟩
  obtain ⟨v,h1,h2⟩:=a2r (ty:=o.type) (cs:=cl.args.map fun | .const _=>true | _=>false) hE h hq' hp
  exact ⟨v,hrun v (by rw [← Array.toList_map,Array.toArray_toList,Array.toArray_toList] at h1;exact h1),h2⟩
end
end
section
open Go.RowKit
def za (e:Ev) (sz n:Nat):List (Nat × Operand) → List HV → Option (List HV):=fun parts cells=>fv e ((List.range n).map fun i=>(i * sz,sz)) cells parts
def j7:List HV → Option (List PV)
 | []=>some []
 | .p x :: r=>match j7 r with | some l=>some (x :: l) | none=>none
 | _ :: _=>none
theorem m7 {c:Ctx} {o:aw}:∀ {l:List HV} {us:List Value} {ps:List PV},bh c o l us → j7 l = some ps → eb c.imm ps us
 | [],[],ps,_,h=>by simp [j7] at h;subst h;trivial
 | .p x :: r,u :: us,ps,hr,h=>by
  simp only [j7] at h
  split at h <;> try (cases h;done)
  rename_i l hl
  simp only [Option.some.injEq] at h
  subst h
  exact ⟨hr.1,m7 hr.2 hl⟩
 | .ref _ _ :: _,_,_,_,h=>by simp [j7] at h
 | .ptr _ _ :: _,_,_,_,h=>by simp [j7] at h
 | .eptr _ _ _ _ :: _,_,_,_,h=>by simp [j7] at h
 | .win _ _ _ _ :: _,_,_,_,h=>by simp [j7] at h
 | .clo _ _ _ :: _,_,_,_,h=>by simp [j7] at h
 | .row _ _ _ :: _,_,_,_,h=>by simp [j7] at h
 | .rptr _ _ _ _ _ :: _,_,_,_,h=>by simp [j7] at h
 | .pin _ _ _ _ :: _,_,_,_,h=>by simp [j7] at h
 | [],_ :: _,_,hr,_=>hr.elim
 | .p _ :: _,[],_,hr,_=>hr.elim
def a4s (f:Nat → List Nat):Nat → List Nat
 | 0=>[]
 | n + 1=>a4s f n ++ f n
theorem a6g {f:Nat → List Nat} {k:Nat}:∀ {n:Nat},k ∈ a4s f n ↔ ∃ i,i < n ∧ k ∈ f i
 | 0=>by simp [a4s]
 | n + 1=>by
  simp only [a4s,List.mem_append,a6g (n:=n)]
  constructor
  · rintro (⟨i,h1,h2⟩ | h)
    · exact ⟨i,by omega,h2⟩
    exact ⟨n,by omega,h⟩
  rintro ⟨i,h1,h2⟩
  by_cases h:i = n
  · subst h;exact .inr h2
  exact .inl ⟨i,by omega,h2⟩
def HV.ids:HV → List Nat
 | .p _=>[]
 | .ref id _=>[id]
 | .ptr id _=>[id]
 | .eptr id _ _ _=>[id]
 | .win id _ _ _=>[id]
 | .clo _ k caps=>a4s (fun i=>(caps i).ids) k
 | .row id _ _=>[id]
 | .rptr id _ _ _ _=>[id]
 | .pin id _ _ _=>[id]
def gl:List HV → List Nat
 | []=>[]
 | h :: r=>h.ids ++ gl r
theorem HV.men_ids' {h:HV} {k:Nat}:h.men k ↔ k ∈ h.ids:=by
 induction h with
 | clo g n caps ih =>
  simp only [HV.men,HV.ids,a6g]
  exact exists_congr fun i=>and_congr Iff.rfl (ih i)
 | _=>simp [HV.men,HV.ids]
theorem HV.men_ids {h:HV} {k:Nat}:h.men k → k ∈ h.ids:=HV.men_ids'.1
theorem jx:∀ {l:List HV} {k:Nat},(∃ h ∈ l,h.men k) → k ∈ gl l
 | h :: r,k,⟨x,hx,hm⟩=>by
  rcases List.mem_cons.1 hx with rfl | hx
  · exact List.mem_append_left _ (HV.men_ids hm)
  exact List.mem_append_right _ (jx ⟨x,hx,hm⟩)
theorem idsL_mem':∀ {l:List HV} {k:Nat},k ∈ gl l → ∃ h ∈ l,h.men k
 | h :: r,k,hk=>by
  rcases List.mem_append.1 hk with hk | hk
  · exact ⟨h,by simp,HV.men_ids'.2 hk⟩
  obtain ⟨x,hx,hm⟩:=idsL_mem' hk
  exact ⟨x,by simp [hx],hm⟩
structure New where
 pre:Prop
 val:HR
 ob:af
def a99 (t:TypeId) (z:List Value):Option TypeId :=
 match ae9 with
 | some (T,e) =>
  match Nat.beq t T,z with
  | true,[.pointer none, .slice none 0 0]=>some e
  | _,_=>none
 | none=>none
theorem a8a {t e:TypeId} {z:List Value} (h:a99 t z = some e):z = [.pointer none, .slice none 0 0]:=by
 unfold a99 at h
 split at h
 · split at h
   · rfl
   cases h
 cases h
def ha (E:Env) (e:Ev) (id:Nat):Op → Option New
 | .alloc t =>
  match E t with
  | some i =>
   match i.zero with
   | some z =>
    match a99 t z with
    | some e=>some ⟨True, .v (.one (.ref id 0)), .bld true t e []⟩
    | none=>match kz z with | true=>some ⟨True, .v (.one (.ptr id 0)), .box (z.map fun c=>.p (js c))⟩ | false=>none
   | none=>none
  | none=>none
 | .box _ x =>
  match e x with
  | some (.v c)=>some ⟨True, .v (.one (.ptr id 0)), .box c.cells⟩
  | _=>none
 | .buildSlice t n parts =>
  match E t with
  | some i =>
   match i.k with
   | .slice el =>
    match E el with
    | some ei =>
     match ei.zero with
     | some z =>
      match kz z,decide (z.length = ei.size ∧ 0 < ei.size ∧ n * ei.size ≤ 16777216),za e ei.size n parts.toList ((List.range (n * ei.size)).map fun k=>.p (js (z.getD (k % ei.size) (.bool false)))) with
      | true,true,some l =>
       match j7 l with
       | some ps=>some ⟨True, .v (.one (.ref id n)), .arr true ei.size el n fun i j=>ps.getD (i * ei.size + j) .any⟩
       | none=>some ⟨True, .v (.one (.ref id n)), .arrh ei.size el n (gl l) fun i j=>l.getD (i * ei.size + j) (.p .any)⟩
      | _,_,_=>none
     | none=>none
    | none=>none
   | _=>none
  | none=>none
 | .makeMap t r =>
  match E t,r with
  | some i,none =>
   match i.k with
   | .map kt _ =>
    match E kt with
    | some ki=>match a11 ki.k with | some kk=>some ⟨True, .v (.one (.ref id 0)), .mp kk 0 fun _=>none⟩ | none=>none
    | none=>none
   | _=>none
  | _,_=>none
 | .makeSlice t l cp =>
  match E t,e l,e cp with
  | some i,some (.v (.one (.p (.raw (.int _ n))))),some (.v (.one (.p (.raw (.int _ m))))) =>
   match i.k with
   | .slice el =>
    match E el with
    | some ei =>
     match ei.zero with
     | some z =>
      match kz z,decide (z.length = ei.size ∧ 0 < ei.size) with
      | true,true=>some ⟨0 ≤ n ∧ n ≤ m ∧ m ≤ 9223372036854775807 ∧ (ei.bytes:Int) * m ≤ 281474976710656, .v (.one (.ref id n.toNat)), .arr true ei.size el n.toNat fun _ j=>js (z.getD j (.bool false))⟩
      | _,_=>none
     | none=>none
    | none=>none
   | _=>none
  | _,_,_=>none
 | _=>none
section
variable {P:Program} {E:Env} {w0:World} {nt:Nat} {c:Ctx} {s:S} {a:Act} {w:World}
theorem a0e {id:Nat} (hm:NM s id) {x:Operand} {r:HR} (hx:ev s x = some r):¬ r.men id:=by
 cases x with
 | tmp d=>exact hm.1 d r hx
 | const v =>
  simp only [ev,a29] at hx
  split at hx
  · split at hx <;> try (cases hx;done)
    simp only [Option.some.injEq] at hx
    subst hx
    rintro ⟨h,hh,hmn⟩
    obtain ⟨u,_,rfl⟩:=List.mem_map.1 hh
    exact hmn
  · cases hx
  simp only [Option.some.injEq] at hx
  subst hx
  exact fun hf=>hf
 | global g =>
  simp only [ev] at hx
  split at hx
  · simp only [Option.some.injEq] at hx
    subst hx
    exact fun hf=>hf
  cases hx
 | func f =>
  simp only [ev,Option.some.injEq] at hx
  subst hx
  exact fun hf=>hf
theorem a9e (h:ak w0 nt c s a w) (id:Nat) (hm:NM s id) (hn:s.o id = none) (l:List HV) (C:Array Value) (t:TypeId) (hl:∀ k,(∃ x ∈ l,x.men k) → k ≠ id) (hr:bh c s.o l C.toList) :
 ∃ c',c'.old = c.old ∧ ak w0 nt c' (s.setO id (some (.box l))) a (w.alloc (.cells C t)) ∧ ax c' (s.setO id (some (.box l))).o (.v (.one (.ptr id 0))) (.pointer (some ⟨w.heap.size,0,none⟩)):=by
 refine ⟨_,(by rfl),h.fresh id hm hn (.box l) (w.alloc (.cells C t)) (.pointer (some ⟨w.heap.size,0,none⟩)) (tv w.heap.size) (Grw.alloc w _ none) (fun b hb=>Nat.le_of_eq (Eq.symm hb)) ⟨w.heap.size,C,t,by simp,by simp,Nat.zero_le _,heap_alloc_new w _, ?_⟩,rfl,fun ob d hob=>by simp [S.setO] at hob;subst hob;simp [af.dim],fun l' _=>⟨w.heap.size,by simp,rfl⟩⟩
 exact bh.evo (c:=c) (o:=s.o) (c':={ old:=c.old,imm:=c.imm,tab:=c.tab,own:=fun k=>if k = id then Value.pointer (some ⟨w.heap.size,0,none⟩) else c.own k,blk:=fun k=>if k = id then tv w.heap.size else c.blk k,rows:=c.rows })
  (o':=(s.setO id (some (af.box l))).o) (Imm.le.refl c.imm) (fun k hk=>by
   have hne:=hl k hk
   exact Evo.of_same (by simp [S.setO,hne]) (by simp [hne])) hr
theorem a7q {i j sz:Nat} (hj:j < sz):(i * sz + j) / sz = i ∧ (i * sz + j) % sz = j:=by
 constructor
 · rw [Nat.add_comm,Nat.add_mul_div_right _ _ (by omega),Nat.div_eq_of_lt hj,Nat.zero_add]
 rw [Nat.add_comm,Nat.add_mul_mod_self_right,Nat.mod_eq_of_lt hj]
theorem ab0 (h:ak w0 nt c s a w) (id:Nat) (hm:NM s id) (hn:s.o id = none) (sz:Nat) (el:TypeId) (n cap:Nat) (f:Nat → Nat → PV) (C:Array Value) (hsz:0 < sz) (hcap:n ≤ cap) (hmax:cap ≤ maxLen) (hC:C.size = cap * sz)
 (hr:∀ i j,i < n → j < sz → ∃ x,C.toList[i * sz + j]? = some x ∧ bc c.imm (f i j) x) :
 ∃ c',c'.old = c.old ∧ ak w0 nt c' (s.setO id (some (.arr true sz el n f))) a (w.alloc (.cells C el)) ∧ ax c' (s.setO id (some (.arr true sz el n f))).o (.v (.one (.ref id n))) (.slice (some ⟨w.heap.size,0,none⟩) n cap):=by
 refine ⟨_,(by rfl),h.fresh id hm hn (.arr true sz el n f) (w.alloc (.cells C el)) (.slice (some ⟨w.heap.size,0,none⟩) n cap) (er (.slice (some ⟨w.heap.size,0,none⟩) n cap)) (Grw.alloc w _ none) (fun b hb=>by simp [er,c3] at hb;omega) ⟨hsz,by omega, .inl ⟨by simp,C.toList.take (n * sz), ?_,fun i j hi hj=>?_⟩⟩,rfl,fun l=>by simp [S.setO],fun ob2 s2 e2 n2 ho2 hd2=>?_⟩
 · refine ⟨?_, .inr ⟨w.heap.size,cap,C,by simp,Nat.zero_le _,heap_alloc_new w _,hcap,hmax,hC,rfl⟩⟩
   have:n * sz ≤ cap * sz:=Nat.mul_le_mul_right _ hcap
   rw [List.length_take,Array.length_toList,hC,Nat.min_eq_left this]
 · obtain ⟨x,hx,hxr⟩:=hr i j hi hj
   refine ⟨x, ?_,hxr⟩
   have:i * sz + j < n * sz:=by
    have:(i + 1) * sz ≤ n * sz:=Nat.mul_le_mul_right _ (by omega)
    rw [Nat.add_mul] at this;omega
   rw [List.getElem?_take,if_pos this]
   exact hx
 simp only [S.setO,if_true,Option.some.injEq] at ho2
 subst ho2
 simp only [af.dim,Option.some.injEq,Prod.mk.injEq] at hd2
 obtain ⟨rfl,rfl,rfl⟩:=hd2
 exact ⟨Nat.le_refl _,fun _=>by simp⟩
theorem aec (h:ak w0 nt c s a w) (id:Nat) (hm:NM s id) (hn:s.o id = none) (sz:Nat) (el:TypeId) (n cap:Nat) (ms:List Nat) (f:Nat → Nat → HV) (C:Array Value) (hsz:0 < sz) (hcap:n ≤ cap) (hmax:cap ≤ maxLen) (hC:C.size = cap * sz)
 (hms:∀ i j k,i < n → j < sz → (f i j).men k → k ∈ ms) (hid:id ∉ ms) (hr:∀ i j,i < n → j < sz → ∃ x,C.toList[i * sz + j]? = some x ∧ bq c s.o (f i j) x) :
 ∃ c',c'.old = c.old ∧ ak w0 nt c' (s.setO id (some (.arrh sz el n ms f))) a (w.alloc (.cells C el)) ∧ ax c' (s.setO id (some (.arrh sz el n ms f))).o (.v (.one (.ref id n))) (.slice (some ⟨w.heap.size,0,none⟩) n cap):=by
 refine ⟨_,(by rfl),h.fresh id hm hn (.arrh sz el n ms f) (w.alloc (.cells C el)) (.slice (some ⟨w.heap.size,0,none⟩) n cap) (er (.slice (some ⟨w.heap.size,0,none⟩) n cap)) (Grw.alloc w _ none) (fun b hb=>by simp [er,c3] at hb;omega) ⟨hsz,by omega,hms, .inl ⟨by simp,C.toList.take (n * sz), ?_,fun i j hi hj=>?_⟩⟩,rfl,fun l=>by simp [S.setO],fun ob2 s2 e2 n2 ho2 hd2=>?_⟩
 · refine ⟨?_, .inr ⟨w.heap.size,cap,C,by simp,Nat.zero_le _,heap_alloc_new w _,hcap,hmax,hC,rfl⟩⟩
   have:n * sz ≤ cap * sz:=Nat.mul_le_mul_right _ hcap
   rw [List.length_take,Array.length_toList,hC,Nat.min_eq_left this]
 · obtain ⟨x,hx,hxr⟩:=hr i j hi hj
   refine ⟨x, ?_, ?_⟩
   · have:i * sz + j < n * sz:=by
      have:(i + 1) * sz ≤ n * sz:=Nat.mul_le_mul_right _ (by omega)
      rw [Nat.add_mul] at this;omega
     rw [List.getElem?_take,if_pos this]
     exact hx
   refine bq.evo (c:=c) (o:=s.o) (Imm.le.refl c.imm) (fun k hk=>?_) hxr
   have hne:k ≠ id:=by rintro rfl;exact hid (hms i j k hi hj hk)
   exact Evo.of_same (by simp [S.setO,hne]) (by simp [hne])
 simp only [S.setO,if_true,Option.some.injEq] at ho2
 subst ho2
 simp only [af.dim,Option.some.injEq,Prod.mk.injEq] at hd2
 obtain ⟨rfl,rfl,rfl⟩:=hd2
 exact ⟨Nat.le_refl _,fun _=>by simp⟩
theorem aa5 {e:Ev} {id:Nat} (he:∀ x r,e x = some r → ¬ r.men id) (places:List (Nat × Nat)):∀ (parts:List (Nat × Operand)) (cells l:List HV),fv e places cells parts = some l → (∀ x ∈ cells,¬ x.men id) → ∀ x ∈ l,¬ x.men id:=by
 intro parts
 induction parts with
 | nil=>intro cells l h hc;simp [fv] at h;rw [← h];exact hc
 | cons p r ih =>
  intro cells l h hc
  obtain ⟨i,x⟩:=p
  simp only [fv] at h
  split at h <;> try (cases h;done)
  rename_i off size cc hpl hx
  split at h <;> try (cases h;done)
  refine ih _ _ h fun y hy=>?_
  simp only [bp,List.append_assoc,List.mem_append] at hy
  rcases hy with hy | hy | hy
  · exact hc y (List.mem_of_mem_take hy)
  · have:=he x _ hx
    intro hm
    apply this
    cases cc with
    | one hh=>simp only [HC.cells,List.mem_singleton] at hy;subst hy;exact hm
    | agg l=>exact ⟨y,hy,hm⟩
  exact hc y (List.mem_of_mem_drop hy)
theorem fillH_sound' (h:ak w0 nt c s a w) (places:List (Nat × Nat)) (place:Nat → Option (Nat × Nat)) (hpl:∀ i p,places[i]? = some p → place i = some p):∀ (parts:List (Nat × Operand)) (cells:List HV) (us:List Value) (l:List HV),bh c s.o cells us → fv (ev s) places cells parts = some l →
 ∃ vs:List Value,Instr.fill place us.toArray (parts.map fun p=>(p.1,a.eval p.2)) = some vs.toArray ∧ bh c s.o l vs:=by
 intro parts
 induction parts with
 | nil =>
  intro cells us l hc hf
  simp only [fv,Option.some.injEq] at hf
  subst hf
  exact ⟨us,by simp [Instr.fill],hc⟩
 | cons p r ih =>
  intro cells us l hc hf
  obtain ⟨i,x⟩:=p
  have hf0:=hf
  simp only [fv] at hf
  split at hf <;> try (cases hf;done)
  rename_i off size cc hplc hx
  split at hf <;> try (cases hf;done)
  rename_i h1 h2
  have h1:=of_decide_eq_true h1
  have h2:=of_decide_eq_true h2
  have hu:dq c s.o cc (a.eval x):=ai h hx
  obtain ⟨hcl,hsz⟩:=ji hu
  have hset:bh c s.o (bp cells off cc.cells) (us.take off ++ (a.eval x).cells.toList ++ us.drop (off + cc.cells.length)):=((hc.take off).append hcl).append (hc.drop _)
  obtain ⟨vs,hv,hr⟩:=ih _ _ l hset hf
  obtain ⟨vs1,hv1,_⟩:=oo h places [(i,x)] cells us (bp cells off cc.cells) hc (by simp only [fv,hplc,hx];simp [h1,h2])
  refine ⟨vs, ?_,hr⟩
  simp only [List.map_cons,List.map_nil,Instr.fill,hplc] at hv1
  simp only [List.map_cons,Instr.fill,hpl i _ hplc]
  have hlen:=hc.length
  have hb:¬ (decide ((a.eval x).cells.size ≠ size) || decide (off + (a.eval x).cells.size > us.toArray.size)) = true:=by
   simp only [Bool.or_eq_true,decide_eq_true_eq,List.size_toArray,not_or]
   omega
  rw [if_neg hb] at hv1 ⊢
  have hfold:=xo off (a.eval x).cells.toList 0 us (by simp;omega)
  simp only [Nat.add_zero,Array.length_toList] at hfold
  have hz:(a.eval x).cells.zipIdx.foldl (fun cs (p:Value × Nat)=>cs.setIfInBounds (off + p.2) p.1) us.toArray = ((a.eval x).cells.toList.zipIdx 0).foldl (fun (cs:Array Value) (p:Value × Nat)=>cs.setIfInBounds (off + p.2) p.1) us.toArray:=by
   rw [← Array.foldl_toList]
   simp
  rw [hz,hfold]
  rw [hsz] at hv
  exact hv
theorem ac9 (hE:cr P E) (h:ak w0 nt c s a w) {o:Oper} {id:Nat} {nw:New} (hq':ha E (ev s) id o.op = some nw) (hp:nw.pre) (hm:NM s id) (hn:s.o id = none) :
 ∃ v w' c',(execOp a.eval o).run P w = .ok (.value v) w' ∧ c'.old = c.old ∧ ak w0 nt c' (s.setO id (some nw.ob)) a w' ∧ ax c' (s.setO id (some nw.ob)).o nw.val v:=by
 cases ho:o.op <;> rw [ho] at hq' <;> simp only [ha] at hq' <;> try (cases hq';done)
 case alloc t =>
  split at hq' <;> try (cases hq';done)
  rename_i i hi
  split at hq' <;> try (cases hq';done)
  rename_i z hz
  split at hq'
  · rename_i e8 hb8
    simp only [Option.some.injEq] at hq'
    subst hq'
    have hz2:=a8a hb8
    subst hz2
    obtain ⟨ii,d,h1,h2,h3,h4,h5,h6,_⟩:=bd (hE t i hi)
    rw [hz] at h6
    cases hiz:ii.zero with
    | none=>rw [hiz] at h6;cases h6
    | some zv =>
     rw [hiz] at h6
     simp only [Option.map_some,Option.some.injEq] at h6
     have hzc:zv.cells = #[.pointer none, .slice none 0 0]:=Array.ext' h6.symm
     have hr:=h.fresh id hm hn (.bld true t e8 []) (w.alloc (.cells zv.cells t)) (.pointer (some ⟨w.heap.size,0,none⟩)) (tv w.heap.size) (Grw.alloc w _ none) (fun b hb=>Nat.le_of_eq (Eq.symm hb))
      ⟨w.heap.size, .pointer none, .slice none 0 0,by simp,Nat.zero_le _,by rw [hzc];exact heap_alloc_new w _, .inl rfl,World.ownsRow_nil _ _ _ _,by simp [c3],(fun k=>by simp [c3,tv]),fun _=>⟨rfl,rfl⟩⟩
     refine ⟨.pointer (some ⟨w.heap.size,0,none⟩),_,_, ?_,(by rfl),hr,rfl,fun l=>by simp [S.setO],fun ob2 s2 e2 n2 ho2 hd2=>?_⟩
     · simp [execOp,ho,Instr.alloc,zeroValue,typeInfo,h1,hiz,newVar,newRow]
     simp only [S.setO,if_true,Option.some.injEq] at ho2
     subst ho2
     simp only [af.dim,Option.some.injEq,Prod.mk.injEq] at hd2
     obtain ⟨rfl,rfl,rfl⟩:=hd2
     exact ⟨Nat.le_refl _,fun _=>by simp⟩
  split at hq' <;> try (cases hq';done)
  rename_i hone
  simp only [Option.some.injEq] at hq'
  subst hq'
  obtain ⟨ii,d,h1,h2,h3,h4,h5,h6,_⟩:=bd (hE t i hi)
  rw [hz] at h6
  cases hiz:ii.zero with
  | none=>rw [hiz] at h6;cases h6
  | some zv =>
   rw [hiz] at h6
   simp only [Option.map_some,Option.some.injEq] at h6
   obtain ⟨c',hold,hr,hv⟩:=a9e h id hm hn (z.map fun c=>.p (js c)) zv.cells t (fun k ⟨x,hx,hmn⟩=>by
    obtain ⟨u,_,rfl⟩:=List.mem_map.1 hx
    exact hmn.elim) (by rw [← h6];exact nx c s.o z (gn hone))
   refine ⟨_,_,c', ?_,hold,hr,hv⟩
   simp [execOp,ho,Instr.alloc,zeroValue,typeInfo,h1,hiz,newVar,newRow]
 case box t x =>
  split at hq' <;> try (cases hq';done)
  rename_i cc hx
  simp only [Option.some.injEq] at hq'
  subst hq'
  have hu:=ai h hx
  obtain ⟨hcl,_⟩:=ji (x:=cc) hu
  have hnm:=a0e hm hx
  obtain ⟨c',hold,hr,hv⟩:=a9e h id hm hn cc.cells (a.eval x).cells t (fun k ⟨y,hy,hmn⟩ e=>by
   subst e
   apply hnm
   cases cc with
   | one hh=>simp only [HC.cells,List.mem_singleton] at hy;subst hy;exact hmn
   | agg l=>exact ⟨y,hy,hmn⟩) hcl
  refine ⟨_,_,c', ?_,hold,hr,hv⟩
  simp [execOp,ho,Instr.box,newVar,newRow]
 case buildSlice t n parts =>
  split at hq' <;> try (cases hq';done)
  rename_i i hi
  split at hq' <;> try (cases hq';done)
  rename_i el hel
  split at hq' <;> try (cases hq';done)
  rename_i ei hei
  split at hq' <;> try (cases hq';done)
  rename_i z hz
  split at hq' <;> try (cases hq';done)
  rename_i l hone hdec hfl
  obtain ⟨hzl,hsz,hbig⟩:=of_decide_eq_true hdec
  obtain ⟨ii,d,h1,h2,h3,_⟩:=bd (hE t i hi)
  obtain rfl:=du (h3.symm.trans hel)
  obtain ⟨ie,de,e1,e2,e3,e4,e5,e6,_⟩:=bd (hE el ei hei)
  rw [hz] at e6
  cases hiz:ie.zero with
  | none=>rw [hiz] at e6;cases e6
  | some zv =>
   rw [hiz] at e6
   simp only [Option.map_some,Option.some.injEq] at e6
   have hzz:zv.cells = z.toArray:=by rw [e6]
   have hinit:bh c s.o ((List.range (n * ei.size)).map fun k=>HV.p (js (z.getD (k % ei.size) (.bool false)))) ((List.range (n * ei.size)).map fun k=>z.getD (k % ei.size) (.bool false)):=by
    refine bh.of_get (by simp) fun k x u hx hu=>?_
    simp only [List.getElem?_map] at hx hu
    cases hk:(List.range (n * ei.size))[k]? with
    | none=>rw [hk] at hx;cases hx
    | some kk =>
     rw [hk] at hx hu
     simp only [Option.map_some,Option.some.injEq] at hx hu
     subst hx hu
     refine jz _ _ (gn hone _ ?_)
     have:kk % ei.size < z.length:=by rw [hzl];exact Nat.mod_lt _ hsz
     rw [List.getD_eq_getElem?_getD,List.getElem?_eq_getElem this]
     exact List.getElem_mem this
   obtain ⟨vs,hv,hr⟩:=fillH_sound' h _ (fun i=>some (i * ei.size,ei.size)) (fun i p hp=>by
    simp only [List.getElem?_map] at hp
    cases hk:(List.range n)[i]? with
    | none=>rw [hk] at hp;cases hp
    | some k =>
     rw [hk] at hp
     have:=List.getElem?_eq_some_iff.1 hk
     obtain ⟨hlt,hke⟩:=this
     simp at hke
     subst hke
     simpa using hp) parts.toList _ _ l hinit hfl
   have hlen:vs.length = n * ei.size:=by
    have h1:=hr.length
    have h2:l.length = n * ei.size:=by
     have key:∀ (parts:List (Nat × Operand)) (cells l:List HV),fv (ev s) ((List.range n).map fun i=>(i * ei.size,ei.size)) cells parts = some l → l.length = cells.length:=by
      intro parts
      induction parts with
      | nil=>intro cells l h;simp [fv] at h;rw [h]
      | cons p r ih =>
       intro cells l h
       obtain ⟨i,x⟩:=p
       simp only [fv] at h
       split at h <;> try (cases h;done)
       split at h <;> try (cases h;done)
       rename_i g1 g2
       have g1:=of_decide_eq_true g1
       have g2:=of_decide_eq_true g2
       rw [ih _ _ h]
       simp only [bp,List.length_append,List.length_take,List.length_drop]
       omega
     rw [key _ _ _ hfl]
     simp
    omega
   have hmaxn:n ≤ maxLen:=by
    have:n * 1 ≤ n * ei.size:=Nat.mul_le_mul_left _ hsz
    simp only [maxLen];omega
   have hll:l.length = n * ei.size:=by rw [← hr.length,hlen]
   have hs':(sizeOf el).run P w = .ok ei.size w:=dw (hE el ei hei) w
   have hzv:(zeroValue el).run P w = .ok zv w:=by simp [zeroValue,typeInfo,e1,hiz]
   have hparts:(Array.map (fun (x:Nat × Operand)=>match x with | (i,x)=>(i,a.eval x)) parts).toList = parts.toList.map fun p=>(p.1,a.eval p.2):=by simp
   have hfin:∀ A:Array Value,A = ((List.range (n * ei.size)).map fun k=>z.getD (k % ei.size) (.bool false)).toArray →
    Instr.fill (fun i=>some (i * ei.size,ei.size)) A (Array.map (fun (x:Nat × Operand)=>match x with | (i,x)=>(i,a.eval x)) parts).toList = some vs.toArray:=by
    intro A hA
    rw [hA,hparts]
    exact hv
   have hexec:(execOp a.eval o).run P w = .ok (.value (.slice (some ⟨w.heap.size,0,none⟩) n n)) (w.alloc (.cells vs.toArray el)):=by
    unfold execOp
    simp only [ho,Instr.buildSlice,Sem.run_bind,run_underlying h2 w,Result.andThen_ok,hs',Sem.run_ite]
    rw [if_neg (by omega)]
    by_cases hne:n * ei.size = 0
    · simp only [if_pos hne,Sem.run_pure,Result.andThen_ok]
      rw [hfin _ (by rw [hne];simp)]
      simp [newRow]
    simp only [if_neg hne,hzv,Result.andThen_ok,Sem.run_pure]
    rw [hfin _ (by
     apply Array.ext'
     simp only [Array.toList_map,Array.toList_range]
     apply List.map_congr_left
     intro k hk
     have:k % ei.size < z.length:=by rw [hzl];exact Nat.mod_lt _ hsz
     simp only [hzz,List.size_toArray,hzl]
     simp [this])]
    simp [newRow]
   split at hq'
   · rename_i ps hps
     simp only [Option.some.injEq] at hq'
     subst hq'
     have hP:=m7 hr hps
     obtain ⟨c',hold,hr',hv'⟩:=ab0 h id hm hn ei.size el n n (fun i j=>ps.getD (i * ei.size + j) .any) vs.toArray hsz (Nat.le_refl _) hmaxn (by simp [hlen]) (fun i j hi hj=>by
      have hlt:i * ei.size + j < n * ei.size:=by
       have:(i + 1) * ei.size ≤ n * ei.size:=Nat.mul_le_mul_right _ (by omega)
       rw [Nat.add_mul] at this;omega
      have hplen:ps.length = n * ei.size:=by rw [← hP.length,hlen]
      obtain ⟨u,hu,hru⟩:=hP.get (i * ei.size + j) ps[i * ei.size + j] (List.getElem?_eq_getElem (by omega))
      exact ⟨u,by simpa using hu,by simpa [List.getD,List.getElem?_eq_getElem (show i * ei.size + j < ps.length by omega)] using hru⟩)
     exact ⟨_,_,c',hexec,hold,hr',hv'⟩
   simp only [Option.some.injEq] at hq'
   subst hq'
   have hmem:∀ i j,i < n → j < ei.size → ∃ hlt:i * ei.size + j < l.length,l.getD (i * ei.size + j) (.p .any) = l[i * ei.size + j]:=fun i j hi hj=>by
    have hlt:i * ei.size + j < l.length:=by
     have:(i + 1) * ei.size ≤ n * ei.size:=Nat.mul_le_mul_right _ (by omega)
     rw [Nat.add_mul] at this;omega
    exact ⟨hlt,by simp [List.getD,List.getElem?_eq_getElem hlt]⟩
   obtain ⟨c',hold,hr',hv'⟩:=aec h id hm hn ei.size el n n (gl l) (fun i j=>l.getD (i * ei.size + j) (.p .any)) vs.toArray hsz (Nat.le_refl _) hmaxn (by simp [hlen]) (fun i j k hi hj hk=>by
    obtain ⟨hlt,he⟩:=hmem i j hi hj
    rw [he] at hk
    exact jx ⟨_,List.getElem_mem hlt,hk⟩) (fun hk=>by
    obtain ⟨x,hx,hmx⟩:=idsL_mem' hk
    refine aa5 (e:=ev s) (id:=id) (fun x r hx=>a0e hm hx) _ _ _ _ hfl (fun y hy=>?_) x hx hmx
    obtain ⟨u,_,rfl⟩:=List.mem_map.1 hy
    exact fun hf=>hf) (fun i j hi hj=>by
    obtain ⟨hlt,he⟩:=hmem i j hi hj
    rw [he]
    obtain ⟨u,hu,hru⟩:=hr.get (i * ei.size + j) l[i * ei.size + j] (List.getElem?_eq_getElem hlt)
    exact ⟨u,by simpa using hu,hru⟩)
   exact ⟨_,_,c',hexec,hold,hr',hv'⟩
 case makeMap t r =>
  split at hq' <;> try (cases hq';done)
  rename_i i hi
  split at hq' <;> try (cases hq';done)
  split at hq' <;> try (cases hq';done)
  split at hq' <;> try (cases hq';done)
  rename_i kk hkk
  simp only [Option.some.injEq] at hq'
  subst hq'
  have hr:=h.fresh id hm hn (.mp kk 0 fun _=>none) (w.alloc (.map #[] 0)) (.map (some w.heap.size)) (tv w.heap.size) (Grw.alloc w _ none) (fun b hb=>Nat.le_of_eq (Eq.symm hb))
   ⟨w.heap.size,#[],0,by simp,by simp,⟨Nat.zero_le _,ac7 hkk _⟩,heap_alloc_new w _,Go.MapKept.stamped_empty 0,by simp,by simp,(fun x hx=>by simp at hx),(fun key y hy=>by cases hy)⟩
  refine ⟨.map (some w.heap.size),_,_, ?_,(by rfl),hr,rfl,fun l=>by simp [S.setO],fun ob2 s2 e2 n2 ho2 hd2=>?_⟩
  · simp [execOp,ho,Go.run_makeMap_plain]
  simp only [S.setO,if_true,Option.some.injEq] at ho2
  subst ho2
  simp only [af.dim,Option.some.injEq,Prod.mk.injEq] at hd2
  obtain ⟨rfl,rfl,rfl⟩:=hd2
  exact ⟨Nat.le_refl _,fun _=>by simp⟩
 case makeSlice t l cp =>
  split at hq' <;> try (cases hq';done)
  rename_i i k n k2 m hi hl hc
  split at hq' <;> try (cases hq';done)
  rename_i el hel
  split at hq' <;> try (cases hq';done)
  rename_i ei hei
  split at hq' <;> try (cases hq';done)
  rename_i z hz
  split at hq' <;> try (cases hq';done)
  rename_i hone hdec
  obtain ⟨hzl,hsz⟩:=of_decide_eq_true hdec
  simp only [Option.some.injEq] at hq'
  subst hq'
  obtain ⟨p1,p2,p3,p4⟩:=hp
  obtain ⟨u1,_⟩:=ai h hl
  obtain ⟨u2,_⟩:=ai h hc
  obtain ⟨ii,d,h1,h2,h3,_⟩:=bd (hE t i hi)
  obtain rfl:=du (h3.symm.trans hel)
  obtain ⟨ie,de,e1,e2,e3,e4,e5,e6,_⟩:=bd (hE el ei hei)
  rw [hz] at e6
  cases hiz:ie.zero with
  | none=>rw [hiz] at e6;cases e6
  | some zv =>
   rw [hiz] at e6
   simp only [Option.map_some,Option.some.injEq] at e6
   have hzz:zv.cells = z.toArray:=by rw [e6]
   have hrun:=run_make (P:=P) w t el ie zv h2 e1 hiz k k2 n m p1 p2 (by rw [← e5];exact p4) p3
   obtain ⟨c',hold,hr',hv'⟩:=ab0 h id hm hn ei.size el n.toNat m.toNat (fun _ j=>js (z.getD j (.bool false))) (madeCells zv.cells (m.toNat * ie.size)) hsz (by omega) (by simp only [maxLen];omega) (by rw [size_madeCells,e4]) (fun i j hi hj=>by
    have hlt:i * ei.size + j < m.toNat * ei.size:=by
     have:(i + 1) * ei.size ≤ m.toNat * ei.size:=Nat.mul_le_mul_right _ (by omega)
     rw [Nat.add_mul] at this;omega
    have hjz:j < z.length:=by omega
    refine ⟨z[j], ?_, ?_⟩
    · simp only [madeCells,hzz,← e4,Array.toList_map,Array.toList_range,List.getElem?_map,List.getElem?_range hlt,Option.map_some,List.size_toArray,hzl,(a7q hj).2]
      simp [hjz]
    rw [List.getD_eq_getElem?_getD,List.getElem?_eq_getElem hjz]
    exact jz _ _ (gn hone _ (List.getElem_mem hjz)))
   refine ⟨_,_,c', ?_,hold,hr',hv'⟩
   simp [execOp,ho,u1,u2,hrun]
end
end
end Go.Hx

/- A part of the proof: Hx6. -/
import Derived.Test.YtaegkccfbmekbaaGreatNx04
set_option linter.all false
section
namespace Go.Hx
open Go.RowKit
section
variable {P:Program} {E:Env} {w0:World} {nt:Nat} {c:Ctx} {s:S} {a:Act} {w:World}
theorem a8x (hE:cn P E) (h:aq w0 nt c s a w) {t:TypeId} {x ix:Operand} {out:Out} (hq:t6 E (ev s) t x ix = some out) (hp:out.pre) :
 ∃ v,(Instr.index t (a.eval x) (a.eval ix)).run P w = .ok v w ∧ b7 c s.o out.val v:=by
 unfold t6 at hq
 split at hq <;> try (cases hq;done)
 rename_i ti b k i hti hx hix
 split at hq <;> try (cases hq;done)
 rename_i hk
 simp only [Option.some.injEq] at hq
 subst hq
 obtain ⟨e1,_⟩:=aj h hx
 obtain ⟨e2,_⟩:=aj h hix
 obtain ⟨ii,d,h1,h2,h3,_⟩:=bg (hE t ti hti)
 have:d = .string:=by cases d <;> simp_all [gr]
 subst this
 rw [e1,e2]
 refine ⟨_, ?_,ep rfl⟩
 have hlt:i.toNat < b.size:=by have:=hp.2;have:=hp.1;omega
 have hb:b[i.toNat]? = some b[i.toNat]:=by simp [hlt]
 have hv:cr b i.toNat = ((b[i.toNat].toNat:Nat):Int):=by
  unfold cr
  have h2:i.toNat < b.data.toList.length:=by simpa using hlt
  rw [List.getD_eq_getElem?_getD,List.getElem?_eq_getElem h2]
  rfl
 have hp0:0 ≤ i:=hp.1
 simp only [Instr.index,asIntOf,Sem.run_bind,Sem.run_pure,Result.andThen_ok,run_underlying h2,hp0,if_true,hb,hv]
theorem a5l (h:aq w0 nt c s a w) {x:Operand} {i:Nat} {out:Out} (hq:nz (ev s) x i = some out) :
 ∃ v,(Instr.extract (a.eval x) i).run P w = .ok v w ∧ b7 c s.o out.val v:=by
 unfold nz at hq
 split at hq <;> try (cases hq;done)
 rename_i l hx
 split at hq <;> try (cases hq;done)
 rename_i cc hi
 simp only [Option.some.injEq] at hq
 subst hq
 obtain ⟨us,e1,hl⟩:=aj h hx
 obtain ⟨u,hu,hr⟩:=hl.get i cc hi
 rw [e1]
 exact ⟨u,by simp [Instr.extract,hu],hr⟩
theorem ad7 (hE:cn P E) (h:aq w0 nt c s a w) {b:Builtin} {args:List Operand} {tys:List TypeId} {ty:TypeId} {cs:Array Bool} {out:Out}
 (hq:o8 E (ev s) b args tys = some out):∃ v,(builtin b tys.toArray ty cs (args.map a.eval).toArray).run P w = .ok (.value v) w ∧ b7 c s.o out.val v:=by
 unfold o8 at hq
 split at hq <;> try (cases hq;done)
 · rename_i x t tr
   split at hq <;> try (cases hq;done)
   rename_i ti hti
   obtain ⟨ii,d,h1,h2,h3,_⟩:=bg (hE t ti hti)
   split at hq <;> try (cases hq;done)
   · rename_i hk hx
     simp only [Option.some.injEq] at hq
     subst hq
     obtain ⟨e1,_⟩:=aj h hx
     have:d = .string:=by cases d <;> simp_all [gr]
     subst this
     refine ⟨_, ?_,ep rfl⟩
     simp [builtin,Builtin.len_,e1,run_underlying h2,goInt]
   · rename_i el hk hx
     simp only [Option.some.injEq] at hq
     subst hq
     obtain ⟨ad,cap,e1,_⟩:=aj h hx
     obtain rfl:=dq (h3.symm.trans hk)
     refine ⟨_, ?_,ep rfl⟩
     simp [builtin,Builtin.len_,e1,run_underlying h2,goInt]
 · rename_i x y _
   split at hq <;> try (cases hq;done)
   rename_i k p kk q hx hy
   simp only [Option.some.injEq] at hq
   subst hq
   obtain ⟨e1,_⟩:=aj h hx
   obtain ⟨e2,_⟩:=aj h hy
   refine ⟨_, ?_,ep rfl⟩
   simp [builtin,Builtin.min_,e1,e2,Builtin.min2]
 · rename_i x y _
   split at hq <;> try (cases hq;done)
   rename_i k p kk q hx hy
   simp only [Option.some.injEq] at hq
   subst hq
   obtain ⟨e1,_⟩:=aj h hx
   obtain ⟨e2,_⟩:=aj h hy
   refine ⟨_, ?_,ep rfl⟩
   simp [builtin,Builtin.max_,e1,e2,Builtin.max2]
theorem a6e (hE:cn P E) (h:aq w0 nt c s a w) {b:Builtin} {args:List Operand} {tys:List TypeId} {ty:TypeId} {cs:Array Bool} {out:Out}
 (hq:pn E s.o (ev s) b args tys = some out) (hp:out.pre):∃ v,(builtin b tys.toArray ty cs (args.map a.eval).toArray).run P w = .ok (.value v) w ∧ b7 c s.o out.val v:=by
 unfold pn at hq
 split at hq <;> try (cases hq;done)
 rename_i x t tr
 split at hq <;> try (cases hq;done)
 rename_i ti hti
 obtain ⟨ii,d,h1,h2,h3,_⟩:=bg (hE t ti hti)
 split at hq <;> try (cases hq;done)
 rename_i el hk
 split at hq <;> try (cases hq;done)
 rename_i hv0 hx
 unfold a0s at hq
 split at hq <;> try (cases hq;done)
 · rename_i id n
   have key:∀ (ob:ah) (sz:Nat) (e:TypeId) (n':Nat),s.o id = some ob → ob.dim = some (sz,e,n') → (∃ ad cap,c.own id = .slice ad n' cap ∧ n' ≤ cap ∧ cap ≤ maxLen) → n' = n →
    ∃ v,(builtin .len (t :: tr).toArray ty cs ([x].map a.eval).toArray).run P w = .ok (.value v) w ∧ b7 c s.o (c6 (.raw (.int .i64 n))) v:=by
    rintro ob sz e n' ho hdm hany rfl
    obtain ⟨_,_,h3'⟩:=aj h hx
    obtain ⟨_,hown⟩:=h3' _ _ _ _ ho hdm
    have hu:=hown rfl
    obtain rfl:=dq (h3.symm.trans hk)
    obtain ⟨ad,cap,hv,_⟩:=hany
    rw [hv] at hu
    refine ⟨_, ?_,ep rfl⟩
    simp [builtin,Builtin.len_,hu,run_underlying h2,goInt]
   split at hq <;> try (cases hq;done)
   · rename_i wr sz e n' f ho
     simp only [Option.some.injEq] at hq
     subst hq
     exact key _ _ _ _ ho rfl (a64 (h.objs id _ ho)) hp
   · rename_i sz e n' ms f ho
     simp only [Option.some.injEq] at hq
     subst hq
     exact key _ _ _ _ ho rfl (a2t (h.objs id _ ho)) hp
   · rename_i e et es n' m g ho
     simp only [Option.some.injEq] at hq
     subst hq
     refine key _ _ _ _ ho rfl ?_ hp
     obtain ⟨ad,cap,q1,q2,q3,_⟩:=a33 (h.objs id _ ho)
     exact ⟨ad,cap,q1,q2,q3⟩
 · rename_i id i k
   split at hq <;> try (cases hq;done)
   rename_i e et es n m g pd ho
   simp only [Option.some.injEq] at hq
   subst hq
   obtain ⟨hi,rfl⟩:=hp
   obtain ⟨_,h3'⟩:=aj h hx
   obtain ⟨_,_,hrow⟩:=h3' _ _ _ _ _ _ _ ho
   have hu:=hrow rfl
   obtain rfl:=dq (h3.symm.trans hk)
   obtain ⟨ad,cap,hv,_⟩:=aip (h.objs id _ ho) hi
   rw [hv] at hu
   refine ⟨_, ?_,ep rfl⟩
   simp [builtin,Builtin.len_,hu,run_underlying h2,goInt]
 · rename_i id n wi wm
   have key:∀ (ob:ah) (sz:Nat) (e:TypeId) (n':Nat),s.o id = some ob → ob.dim = some (sz,e,n') → (∃ ad cap,c.own id = .slice ad n' cap ∧ n' ≤ cap ∧ cap ≤ maxLen) → n' = n →
    ∃ v,(builtin .len (t :: tr).toArray ty cs ([x].map a.eval).toArray).run P w = .ok (.value v) w ∧ b7 c s.o (c6 (.raw (.int .i64 wm))) v:=by
    rintro ob sz e n' ho hdm hany rfl
    obtain ⟨_,_,h3'⟩:=aj h hx
    obtain ⟨_,hown⟩:=h3' _ _ _ _ ho hdm
    obtain ⟨_,_,_,_,hu,_⟩:=hown rfl
    obtain rfl:=dq (h3.symm.trans hk)
    refine ⟨_, ?_,ep rfl⟩
    simp [builtin,Builtin.len_,hu,run_underlying h2,goInt]
   split at hq <;> try (cases hq;done)
   · rename_i wr sz e n' f ho
     simp only [Option.some.injEq] at hq
     subst hq
     exact key _ _ _ _ ho rfl (a64 (h.objs id _ ho)) hp
   · rename_i sz e n' ms f ho
     simp only [Option.some.injEq] at hq
     subst hq
     exact key _ _ _ _ ho rfl (a2t (h.objs id _ ho)) hp
theorem a2a (h:aq w0 nt c s a w):∀ {xs:List Operand} {l:List PV},uv (ev s) xs = some l → eo c.imm l (xs.map a.eval)
 | [],l,hl=>by simp [uv] at hl;subst hl;trivial
 | x :: xs,l,hl=>by
  simp only [uv] at hl
  split at hl <;> try (cases hl;done)
  rename_i y l' hx hr
  simp only [Option.some.injEq] at hl
  subst hl
  exact ⟨aj h hx,a2a h hr⟩
theorem a2g (h:aq w0 nt c s a w):∀ {xs:List Operand} {l:List HV},vj (ev s) xs = some l → bo c s.o l (xs.map a.eval)
 | [],l,hl=>by simp [vj] at hl;subst hl;trivial
 | x :: xs,l,hl=>by
  simp only [vj] at hl
  split at hl <;> try (cases hl;done)
  rename_i y l' hx hr
  simp only [Option.some.injEq] at hl
  subst hl
  exact ⟨aj h hx,a2g h hr⟩
theorem yw {c:Ctx} {o:bd}:∀ {l:List HV} {us:List Value} {ps:List PV},bo c o l us → it l = some ps → eo c.imm ps us
 | [],[],ps,_,h=>by simp [it] at h;subst h;trivial
 | .p x :: r,u :: us,ps,hr,h=>by
  simp only [it] at h
  split at h <;> try (cases h;done)
  rename_i l hl
  simp only [Option.some.injEq] at h
  subst h
  exact ⟨hr.1,yw hr.2 hl⟩
 | .ref _ _ :: _,_,_,_,h=>by simp [it] at h
 | .ptr _ _ :: _,_,_,_,h=>by simp [it] at h
 | .eptr _ _ _ _ :: _,_,_,_,h=>by simp [it] at h
 | .win _ _ _ _ :: _,_,_,_,h=>by simp [it] at h
 | .clo _ _ _ :: _,_,_,_,h=>by simp [it] at h
 | .row _ _ _ :: _,_,_,_,h=>by simp [it] at h
 | .rptr _ _ _ _ _ :: _,_,_,_,h=>by simp [it] at h
 | .pin _ _ _ _ :: _,_,_,_,h=>by simp [it] at h
 | [],_ :: _,_,hr,_=>hr.elim
 | .p _ :: _,[],_,hr,_=>hr.elim
theorem aae (h:aq w0 nt c s a w) {fn:Fn} {first caps:Array Operand} {out:Out} (hq:x4 (ev s) fn first.toList caps.toList = some out) :
 ∃ v,(Instr.makeFunc fn (first.map a.eval) (caps.map a.eval)).run P w = .ok v w ∧ b7 c s.o out.val v:=by
 unfold x4 at hq
 split at hq <;> try (cases hq;done)
 rotate_left
 · rename_i f x hfirst
   split at hq <;> try (cases hq;done)
   rename_i hs hcaps hx
   split at hq <;> try (cases hq;done)
   rename_i l hl
   simp only [Option.some.injEq] at hq
   subst hq
   have hf:first = #[x]:=by
    apply Array.ext'
    simpa using hfirst
   have hc:caps = #[]:=by
    apply Array.ext'
    simpa using hcaps
   subst hf hc
   obtain ⟨us,e1,hr⟩:=aj h hx
   have hp:=yw hr hl
   refine ⟨.func (.func f) #[.agg us.toArray] #[],by simp [Instr.makeFunc,e1],us,rfl,hp.length,fun i hi=>?_⟩
   obtain ⟨u,hu,hrr⟩:=hp.get i l[i] (List.getElem?_eq_getElem hi)
   exact ⟨u,hu,by simpa [List.getD,List.getElem?_eq_getElem hi] using hrr⟩
 rename_i f hfirst
 have hf:first = #[]:=by
  apply Array.ext'
  simpa using hfirst
 subst hf
 split at hq
 rotate_left
 · split at hq <;> try (cases hq;done)
   rename_i l hl
   simp only [Option.some.injEq] at hq
   subst hq
   have hr:=a2g h hl
   refine ⟨.func (.func f) #[] (caps.map a.eval),by simp [Instr.makeFunc],caps.toList.map a.eval,by rw [← Array.toList_map,Array.toArray_toList],by rw [hr.length],fun i hi=>?_⟩
   obtain ⟨u,hu,hrr⟩:=hr.get i l[i] (List.getElem?_eq_getElem hi)
   exact ⟨u,hu,by simpa [List.getD,List.getElem?_eq_getElem hi] using hrr⟩
 rename_i l hl
 simp only [Option.some.injEq] at hq
 subst hq
 have hr:=a2a h hl
 refine ⟨.func (.func f) #[] (caps.map a.eval),by simp [Instr.makeFunc],caps.toList.map a.eval,by rw [← Array.toList_map,Array.toArray_toList],by rw [hr.length],fun i hi=>?_⟩
 obtain ⟨u,hu,hrr⟩:=hr.get i l[i] (List.getElem?_eq_getElem hi)
 exact ⟨u,hu,by simpa [List.getD,List.getElem?_eq_getElem hi] using hrr⟩
theorem adh {o:Oper} {x:Operand} (ho:o.op = .nilCheck x) (h:aq w0 nt c s a w) {out:Out} (hq:nc s.o (ev s) x = some out) (hp:out.pre) :
 ∃ v,(execOp a.eval o).run P w = .ok (.value v) w ∧ b7 c s.o out.val v:=by
 unfold nc at hq
 split at hq <;> try (cases hq;done)
 · rename_i g k cc hx
   simp only [Option.some.injEq] at hq
   subst hq
   obtain ⟨cs,e1,h2,h3⟩:=aj h hx
   refine ⟨_, ?_,cs,e1,h2,h3⟩
   unfold execOp
   simp [ho,e1]
 · rename_i g k cc hx
   simp only [Option.some.injEq] at hq
   subst hq
   obtain ⟨cs,e1,h2,h3⟩:=aj h hx
   refine ⟨_, ?_,cs,e1,h2,h3⟩
   unfold execOp
   simp [ho,e1]
 · rename_i hh _ _ hx
   split at hq <;> try (cases hq;done)
   rename_i p _ _ ht
   simp only [Option.some.injEq] at hq
   subst hq
   have hu:=aj h hx
   obtain ⟨ad,e1,_⟩:=qw h hu ht hp
   refine ⟨_, ?_,hu⟩
   unfold execOp
   simp [ho,e1]
theorem xg (hE : cn P E) : ∀ (fs : List Field) (l : List (Nat × Nat)), ua E (fs.map fun f => (f.offset, f.type, f.name == "_")) = some l →
 fs.mapM (fun f=>(P.info? f.type).map fun i=>(f.offset,i.size)) = some l
 | [],l,h=>by simp [ua] at h;subst h;rfl
 | f :: fs,l,h=>by
  simp only [List.map_cons,ua] at h
  split at h <;> try (cases h;done)
  rename_i fi l' hfi hr
  simp only [Option.some.injEq] at h
  subst h
  obtain ⟨ii,d,h1,h2,h3,h4,_⟩:=bg (hE _ _ hfi)
  simp [List.mapM_cons,h1,h4,xg hE fs l' hr]
theorem a0h (o:Nat):∀ (vs:List Value) (i:Nat) (cs:List Value),o + i + vs.length ≤ cs.length →
 (vs.zipIdx i).foldl (fun (cs:Array Value) (p:Value × Nat)=>cs.setIfInBounds (o + p.2) p.1) cs.toArray = (cs.take (o + i) ++ vs ++ cs.drop (o + i + vs.length)).toArray
 | [],i,cs,_=>by simp
 | v :: vs,i,cs,h=>by
  simp only [List.zipIdx_cons,List.foldl_cons]
  have hset:(cs.toArray.setIfInBounds (o + i) v) = (cs.set (o + i) v).toArray:=by simp
  rw [hset,a0h o vs (i + 1) (cs.set (o + i) v) (by simp at h ⊢;omega)]
  congr 1
  have h':o + i + (vs.length + 1) ≤ cs.length:=by simpa using h
  apply List.ext_getElem?
  intro j
  simp only [List.getElem?_append,List.length_take,List.length_set,List.length_append,List.length_cons,List.getElem?_take,List.getElem?_drop,List.getElem?_set]
  by_cases h1:j < o + i
  · have e1:j < min (o + (i + 1)) cs.length:=by omega
    have e2:j < min (o + i) cs.length:=by omega
    have e3:j < min (o + (i + 1)) cs.length + vs.length:=by omega
    have e4:j < min (o + i) cs.length + (vs.length + 1):=by omega
    have e5:¬ (o + i = j):=by omega
    have e6:j < o + (i + 1):=by omega
    simp [e1,e2,e3,e4,e5,e6,h1]
  · by_cases h2:j = o + i
    · subst h2
      have e1:o + i < min (o + (i + 1)) cs.length:=by omega
      have e2:¬ (o + i < min (o + i) cs.length):=by omega
      have e3:o + i < min (o + (i + 1)) cs.length + vs.length:=by omega
      have e4:o + i < min (o + i) cs.length + (vs.length + 1):=by omega
      have e6:o + i < o + (i + 1):=by omega
      have e7:o + i < cs.length:=by omega
      have e8:o + i - min (o + i) cs.length = 0:=by omega
      simp [e1,e2,e3,e4,e6,e7,e8]
    · have e1:¬ (j < min (o + (i + 1)) cs.length):=by omega
      have e2:¬ (j < min (o + i) cs.length):=by omega
      have m1:min (o + (i + 1)) cs.length = o + (i + 1):=by omega
      have m2:min (o + i) cs.length = o + i:=by omega
      rw [m1] at e1
      rw [m2] at e2
      simp only [m1,m2,e1,e2,if_false]
      by_cases h3:j < o + (i + 1) + vs.length
      · have h4:j < o + i + (vs.length + 1):=by omega
        have e9:j - (o + i) = (j - (o + (i + 1))) + 1:=by omega
        simp [h3,h4,e9]
      · have h4:¬ (j < o + i + (vs.length + 1)):=by omega
        have e9:¬ (o + i = o + (i + 1) + vs.length + (j - (o + (i + 1) + vs.length))):=by omega
        have e10:o + (i + 1) + vs.length + (j - (o + (i + 1) + vs.length)) = o + i + (vs.length + 1) + (j - (o + i + (vs.length + 1))):=by omega
        simp only [h3,h4,if_false]
        rw [if_neg e9,e10]
theorem ji {o:bd} {x:HC} {u:Value} (h:fh c o x u):bo c o x.cells u.cells.toList ∧ (x.cells.length = u.cells.size):=by
 cases x with
 | one h1 =>
  have hone:=bp.oneCell (c:=c) (o:=o) (h:=h1) h
  have:u.cells = #[u]:=by cases u <;> simp_all [Value.cells,Value.oneCell']
  rw [this]
  exact ⟨⟨h,trivial⟩,rfl⟩
 | agg l =>
  obtain ⟨us,rfl,hl⟩:=h
  exact ⟨by simpa [Value.cells,HC.cells] using hl,by simp [Value.cells,HC.cells,hl.length]⟩
theorem vn (h:aq w0 nt c s a w) (places:List (Nat × Nat)):∀ (parts:List (Nat × Operand)) (cells:List HV) (us:List Value) (l:List HV),bo c s.o cells us → gj (ev s) places cells parts = some l →
 ∃ vs:List Value,Instr.fill (fun i=>places[i]?) us.toArray (parts.map fun p=>(p.1,a.eval p.2)) = some vs.toArray ∧ bo c s.o l vs
 | [],cells,us,l,hc,hf=>by
  simp only [gj,Option.some.injEq] at hf
  subst hf
  exact ⟨us,by simp [Instr.fill],hc⟩
 | (i,x) :: r,cells,us,l,hc,hf=>by
  simp only [gj] at hf
  split at hf <;> try (cases hf;done)
  rename_i off size cc hpl hx
  split at hf <;> try (cases hf;done)
  rename_i h1 h2
  have h1:=of_decide_eq_true h1
  have h2:=of_decide_eq_true h2
  have hu:fh c s.o cc (a.eval x):=aj h hx
  obtain ⟨hcl,hsz⟩:=ji hu
  have hlen:=hc.length
  have hset:bo c s.o (bu cells off cc.cells) (us.take off ++ (a.eval x).cells.toList ++ us.drop (off + cc.cells.length)):=((hc.take off).append hcl).append (hc.drop _)
  obtain ⟨vs,hv,hr⟩:=vn h places r _ _ l hset hf
  refine ⟨vs, ?_,hr⟩
  simp only [List.map_cons,Instr.fill,hpl]
  have hb:((a.eval x).cells.size ≠ size || off + (a.eval x).cells.size > us.toArray.size) = false:=by
   simp only [Bool.or_eq_false_iff,decide_eq_false_iff_not,ne_eq,Decidable.not_not,List.size_toArray]
   omega
  have hb':¬ (decide ((a.eval x).cells.size ≠ size) || decide (off + (a.eval x).cells.size > us.toArray.size)) = true:=by
   rw [Bool.not_eq_true]
   exact hb
  rw [if_neg hb']
  have hfold:=a0h off (a.eval x).cells.toList 0 us (by simp;omega)
  simp only [Nat.add_zero,Array.length_toList] at hfold
  have hz:(a.eval x).cells.zipIdx.foldl (fun cs (p:Value × Nat)=>cs.setIfInBounds (off + p.2) p.1) us.toArray = ((a.eval x).cells.toList.zipIdx 0).foldl (fun (cs:Array Value) (p:Value × Nat)=>cs.setIfInBounds (off + p.2) p.1) us.toArray:=by
   rw [← Array.foldl_toList]
   simp
  rw [hz,hfold]
  rw [hsz] at hv
  exact hv
theorem a8y (hE:cn P E) (h:aq w0 nt c s a w) {t:TypeId} {parts:Array (Nat × Operand)} {out:Out} (hq:su E (ev s) t parts.toList = some out) :
 ∃ v,(Instr.build t (parts.map fun (i,x)=>(i,a.eval x))).run P w = .ok v w ∧ b7 c s.o out.val v:=by
 unfold su at hq
 split at hq <;> try (cases hq;done)
 rename_i i hi
 split at hq <;> try (cases hq;done)
 rename_i fs z hk hz
 split at hq <;> try (cases hq;done)
 rename_i places hpl hone
 split at hq <;> try (cases hq;done)
 rename_i l hf
 simp only [Option.some.injEq] at hq
 subst hq
 obtain ⟨ii,d,h1,h2,h3,h4,h5,h6,_⟩:=bg (hE t i hi)
 obtain ⟨fa,rfl,hfa⟩:=qg (h3.symm.trans hk)
 rw [hfa] at hpl
 have hplaces:=xg hE fa.toList places hpl
 rw [hz] at h6
 cases hiz:ii.zero with
 | none=>rw [hiz] at h6;cases h6
 | some zv =>
  rw [hiz] at h6
  simp only [Option.map_some,Option.some.injEq] at h6
  obtain ⟨vs,hv,hr⟩:=vn h places parts.toList _ z l (so c s.o z (iq hone)) hf
  refine ⟨.agg vs.toArray, ?_,vs,rfl,hr⟩;refine run_build w t _ vs.toArray ?_
  unfold Program.built
  simp only [h1,h2,hiz,hplaces]
  have hzz:zv.cells = z.toArray:=by rw [h6]
  rw [hzz]
  simpa using hv
theorem tz (w:World) (d:Nat) (t e:TypeId) (ad:Option Addr) (l cp:Nat) (h:P.underlying t = some (.slice e)):(Op.equalIn (d + 1) t (.slice ad l cp) (.slice none 0 0)).run P w = .ok ad.isNone w:=by
 cases ad <;> simp [Op.equalIn,run_underlying h]
theorem abz (w:World) (t e:TypeId) (ad:Option Addr) (l cp:Nat) (h:P.underlying t = some (.slice e)):(binOp .eql t (.slice ad l cp) (.slice none 0 0)).run P w = .ok (.bool ad.isNone) w:=by
 have h1:binOp .eql t (.slice ad l cp) (.slice none 0 0) = (Op.equal t (.slice ad l cp) (.slice none 0 0) >>= fun b=>pure (.bool b)):=by simp only [binOp]
 have h2:(Op.equal t (.slice ad l cp) (.slice none 0 0)).run P w = .ok ad.isNone w:=tz w 9999 t e ad l cp h
 rw [h1,Sem.run_bind,h2]
 rfl
theorem ab3 (w:World) (t e:TypeId) (ad:Option Addr) (l cp:Nat) (h:P.underlying t = some (.slice e)):(binOp .neq t (.slice ad l cp) (.slice none 0 0)).run P w = .ok (.bool (!ad.isNone)) w:=by
 have h1:binOp .neq t (.slice ad l cp) (.slice none 0 0) = (Op.equal t (.slice ad l cp) (.slice none 0 0) >>= fun b=>pure (.bool (!b))):=by simp only [binOp]
 have h2:(Op.equal t (.slice ad l cp) (.slice none 0 0)).run P w = .ok ad.isNone w:=tz w 9999 t e ad l cp h
 rw [h1,Sem.run_bind,h2]
 rfl
theorem a6n (hE:cn P E) (h:aq w0 nt c s a w) {op:BinOp} {t:TypeId} {x y:Operand} {out:Out} (hq:pz E (ev s) op t x y = some out) (hp:out.pre) :
 ∃ v,(do eqGuard op t x y (a.eval x) (a.eval y);binOp op t (a.eval x) (a.eval y):Sem Value).run P w = .ok v w ∧ b7 c s.o out.val v:=by
 unfold pz at hq
 split at hq <;> try (cases hq;done)
 split at hq <;> try (cases hq;done)
 rename_i i hi
 split at hq <;> try (cases hq;done)
 rename_i el hk
 obtain ⟨ii,d,h1,h2,h3,_⟩:=bg (hE t i hi)
 obtain rfl:=dq (h3.symm.trans hk)
 have hg:∀ ad l cp,(eqGuard op t x (.const (.slice none 0 0)) (.slice ad l cp) (.slice none 0 0)).run P w = .ok () w:=by intro ad l cp;cases op <;> simp [eqGuard]
 have core:∀ ad l cp,a.eval x = .slice ad l cp → x9 op ad = some out → ∃ v,(do eqGuard op t x (.const (.slice none 0 0)) (a.eval x) (a.eval (.const (.slice none 0 0)));binOp op t (a.eval x) (a.eval (.const (.slice none 0 0))):Sem Value).run P w = .ok v w ∧ b7 c s.o out.val v:=by
  intro ad l cp he hn
  have e2:a.eval (.const (.slice none 0 0)) = .slice none 0 0:=rfl
  rw [he,e2,Sem.run_bind,hg,Result.andThen_ok]
  cases op <;> simp only [x9] at hn <;> try (cases hn;done)
  · simp only [Option.some.injEq] at hn;subst hn
    exact ⟨_,abz w t el ad l cp h2,ep rfl⟩
  · simp only [Option.some.injEq] at hn;subst hn
    exact ⟨_,ab3 w t el ad l cp h2,ep rfl⟩
 split at hq <;> try (cases hq;done)
 · rename_i n sz cl f hx
   obtain ⟨ad,cap,e1,_,_,_,hc⟩:=aj h hx
   have hn:0 < n:=by
    cases op <;> simp only [ac4] at hq <;> first | (cases hq;done) | (simp only [Option.some.injEq] at hq;subst hq;exact hp)
   obtain ⟨b,off,rfl,_⟩:=hc hn
   refine core _ _ _ e1 ?_
   cases op <;> simp only [ac4] at hq <;> first | (cases hq;done) | skip
   · simp only [Option.some.injEq] at hq;subst hq
     have:(0 < n) = True:=by simp [hn]
     simp [x9,this]
   · simp only [Option.some.injEq] at hq;subst hq
     have:(0 < n) = True:=by simp [hn]
     simp [x9,this]
 · rename_i ad l cp hx
   obtain ⟨e1,_⟩:=aj h hx
   exact core ad l cp e1 hq
theorem ac7 {d:TypeDesc} {e:TypeId} (h:gr d = .pointer e):d = .pointer e:=by
 cases d <;> simp [gr] at h
 rw [h]
theorem u5 (w:World) (d:Nat) (t e:TypeId) (p:Option Addr) (h:P.underlying t = some (.pointer e)):(Op.equalIn (d + 1) t (.pointer p) (.pointer none)).run P w = .ok p.isNone w:=by
 cases p <;> simp [Op.equalIn,run_underlying h]
theorem ace (w:World) (t e:TypeId) (p:Option Addr) (h:P.underlying t = some (.pointer e)):(binOp .eql t (.pointer p) (.pointer none)).run P w = .ok (.bool p.isNone) w:=by
 have h1:binOp .eql t (.pointer p) (.pointer none) = (Op.equal t (.pointer p) (.pointer none) >>= fun b=>pure (.bool b)):=by simp only [binOp]
 have h2:(Op.equal t (.pointer p) (.pointer none)).run P w = .ok p.isNone w:=u5 w 9999 t e p h
 rw [h1,Sem.run_bind,h2]
 rfl
theorem aag (w:World) (t e:TypeId) (p:Option Addr) (h:P.underlying t = some (.pointer e)):(binOp .neq t (.pointer p) (.pointer none)).run P w = .ok (.bool (!p.isNone)) w:=by
 have h1:binOp .neq t (.pointer p) (.pointer none) = (Op.equal t (.pointer p) (.pointer none) >>= fun b=>pure (.bool (!b))):=by simp only [binOp]
 have h2:(Op.equal t (.pointer p) (.pointer none)).run P w = .ok p.isNone w:=u5 w 9999 t e p h
 rw [h1,Sem.run_bind,h2]
 rfl
theorem a7a (hE:cn P E) (h:aq w0 nt c s a w) {op:BinOp} {t:TypeId} {x y:Operand} {out:Out} (hq:iw E s.o (ev s) op t x y = some out) (hp:out.pre) :
 ∃ v,(do eqGuard op t x y (a.eval x) (a.eval y);binOp op t (a.eval x) (a.eval y):Sem Value).run P w = .ok v w ∧ b7 c s.o out.val v:=by
 unfold iw at hq
 split at hq <;> try (cases hq;done)
 split at hq <;> try (cases hq;done)
 rename_i i hi
 split at hq <;> try (cases hq;done)
 rename_i el hk
 obtain ⟨ii,d,h1,h2,h3,_⟩:=bg (hE t i hi)
 obtain rfl:=ac7 (h3.symm.trans hk)
 have hg:∀ p,(eqGuard op t x (.const (.pointer none)) (.pointer p) (.pointer none)).run P w = .ok () w:=by intro p;cases op <;> simp [eqGuard]
 have core:∀ p,a.eval x = .pointer p → a4q op p.isNone = some out → ∃ v,(do eqGuard op t x (.const (.pointer none)) (a.eval x) (a.eval (.const (.pointer none)));binOp op t (a.eval x) (a.eval (.const (.pointer none))):Sem Value).run P w = .ok v w ∧ b7 c s.o out.val v:=by
  intro p he hn
  have e2:a.eval (.const (.pointer none)) = .pointer none:=rfl
  rw [he,e2,Sem.run_bind,hg,Result.andThen_ok]
  cases op <;> simp only [a4q] at hn <;> try (cases hn;done)
  · simp only [Option.some.injEq] at hn;subst hn
    exact ⟨_,ace w t el p h2,ep rfl⟩
  · simp only [Option.some.injEq] at hn;subst hn
    exact ⟨_,aag w t el p h2,ep rfl⟩
 split at hq <;> try (cases hq;done)
 rename_i hv hx
 have hr:=aj h hx
 unfold ww at hq
 split at hq <;> try (cases hq;done)
 · rename_i id off
   split at hq <;> try (cases hq;done)
   rename_i l hl
   obtain ⟨b,_,hu⟩:=hr.2.2 l hl
   exact core _ hu hq
 · rename_i p
   exact core p hr.1 hq
theorem abs {o:Oper} {x0 x y:Operand} (ho:o.op = .pick x0 x y) (h:aq w0 nt c s a w) {out:Out} (hq:ws (ev s) x0 x y = some out) (hp:out.pre) :
 ∃ v,(execOp a.eval o).run P w = .ok (.value v) w ∧ b7 c s.o out.val v:=by
 unfold ws at hq
 split at hq <;> try (cases hq;done)
 rename_i b hb
 obtain ⟨e1,_⟩:=aj h hb
 have hrun:(execOp a.eval o).run P w = .ok (.value (if b then a.eval x else a.eval y)) w:=by simp [execOp,ho,e1,asBool]
 refine ⟨_,hrun, ?_⟩
 unfold amb at hq
 split at hq
 · rename_i u v hx hy
   simp only [Option.some.injEq] at hq
   subst hq
   obtain ⟨e2,_⟩:=aj h hx
   obtain ⟨e3,_⟩:=aj h hy
   rw [e2,e3]
   cases b <;> exact ⟨rfl,rfl⟩
 · rename_i r hx hy
   simp only [Option.some.injEq] at hq
   subst hq
   have hp:b = true:=hp
   subst hp
   exact aj h hx
 · rename_i r _ hx hy
   simp only [Option.some.injEq] at hq
   subst hq
   have hp:b = true:=hp
   subst hp
   exact aj h hx
 · rename_i r hx hy
   simp only [Option.some.injEq] at hq
   subst hq
   have hp:b = false:=hp
   subst hp
   exact aj h hy
 · rename_i r _ _ hx hy
   simp only [Option.some.injEq] at hq
   subst hq
   have hp:b = false:=hp
   subst hp
   exact aj h hy
 · rename_i r r' _ _ _ hx hy
   cases b
   · simp only [Option.some.injEq] at hq
     subst hq
     exact aj h hy
   · simp only [Option.some.injEq] at hq
     subst hq
     exact aj h hx
 · cases hq
theorem a2r {k:TypeId} {ki:TI} (hE:cn P E) (hk:E k = some ki) {kk:KK} (hkk:a6h ki.k = some kk):Go.Maps.Keyed P k ∧ ∀ m,MK.ok kk m → ∃ l,keyOf P k m.val = some l:=by
 obtain ⟨ii,d,h1,h2,h3,_⟩:=bg (hE k ki hk)
 rw [h3] at hkk
 cases d <;> simp only [gr,a6h] at hkk <;> try (cases hkk;done)
 · rename_i q
   simp only [Option.some.injEq] at hkk
   subst hkk
   refine ⟨Go.Maps.int_keyed h2,fun m hm=>?_⟩
   cases m with
   | i q' n =>
    obtain ⟨rfl,hw⟩:=hm
    exact ⟨_,Go.Maps.keyOf_int_mk h2 hw⟩
   | s b=>exact hm.elim
 · simp only [Option.some.injEq] at hkk
   subst hkk
   refine ⟨Go.Maps.string_keyed h2,fun m hm=>?_⟩
   cases m with
   | i q' n=>exact hm.elim
   | s b=>exact ⟨_,Go.WideMaps.keyOf_string_mk h2 hm⟩
theorem a7c (hE:cn P E) (h:aq w0 nt c s a w) {t:TypeId} {x ix:Operand} {cm:Bool} {out:Out} (hq':iz E s.o (ev s) t x ix cm = some out) (hp:out.pre) :
 ∃ v,(Instr.lookup t (a.eval x) (a.eval ix) cm).run P w = .ok v w ∧ b7 c s.o out.val v:=by
 unfold iz at hq'
 split at hq' <;> try (cases hq';done)
 rename_i i hi
 split at hq' <;> try (cases hq';done)
 rename_i kt et hmk
 split at hq' <;> try (cases hq';done)
 rename_i kk z hlk
 split at hq' <;> try (cases hq';done)
 rename_i kv hix
 split at hq' <;> try (cases hq';done)
 rename_i m hm
 split at hq' <;> try (cases hq';done)
 rename_i hv hx
 unfold a5p at hq'
 split at hq' <;> try (cases hq';done)
 rename_i id k0
 split at hq' <;> try (cases hq';done)
 rename_i kk' n f hob
 obtain ⟨ii,d,h1,h2,h3,_⟩:=bg (hE t i hi)
 have ht:P.underlying t = some (.map kt et):=by
  rw [h2]
  have h4:=h3.symm.trans hmk
  cases d <;> simp [gr] at h4
  obtain ⟨rfl,rfl⟩:=h4
  rfl
 unfold afq at hlk
 split at hlk <;> try (cases hlk;done)
 rename_i ki ei hki hei
 split at hlk <;> try (cases hlk;done)
 rename_i kk2 z2 e1 e2 e3
 simp only [Option.some.injEq,Prod.mk.injEq] at hlk
 obtain ⟨rfl,rfl⟩:=hlk
 obtain ⟨hz,hz1⟩:=aj1 (hE et ei hei) e3 e2 w
 obtain ⟨K,hkey⟩:=a2r hE hki e1
 obtain ⟨b,es,clock,q1,q2,q3,q4,q5,q6,q7,q8,q9⟩:=h.objs id _ hob
 obtain ⟨_,_,g3⟩:=aj h hx
 obtain ⟨g4,g5⟩:=g3 _ _ _ _ hob rfl
 have hu:a.eval x = .map (some b):=by rw [g5 (by omega),q1]
 obtain ⟨hu2,_⟩:=aj h hix
 have hp':kk' = kk2 ∧ MK.ok kk2 m:=by
  cases cm <;> (simp only [Option.some.injEq] at hq';subst hq';exact hp)
 obtain ⟨rfl,hok⟩:=hp'
 obtain ⟨l,hl⟩:=hkey m hok
 have hmv:=ac9 hm
 rw [hmv] at hl
 have hlook:=aku cm K ht hz q4 q7 q5 (fun x hx=>by
  obtain ⟨key,y,r1,r2,_⟩:=q8 x hx
  rw [r1]
  exact hkey key (q9 key y r2).1) hl
 rw [hu,hu2]
 rcases hlook with ⟨hrun,hno⟩ | ⟨e0,he0,hk0,hrun⟩
 · have hf:f m = none:=by
    cases hfm:f m with
    | none=>rfl
    | some y =>
     obtain ⟨x0,hx0,hxk⟩:=(q9 m y hfm).2
     exact absurd (hxk.trans hmv) (hno x0 hx0)
   have hat:mo f m z2 = lh z2:=by unfold mo;rw [hf]
   have hhas:a0v f m = false:=by unfold a0v;rw [hf]
   refine ⟨_,hrun, ?_⟩
   cases cm with
   | true =>
    simp only [Option.some.injEq] at hq'
    subst hq'
    rw [hat,hhas]
    exact ⟨[z2, .bool false],rfl,np _ _ hz1,⟨rfl,rfl⟩,trivial⟩
   | false =>
    simp only [Option.some.injEq] at hq'
    subst hq'
    rw [hat]
    exact np _ _ hz1
 · obtain ⟨key,y,r1,r2,r3⟩:=q8 e0 he0
   have hkm:key = m:=MK.val_inj (r1.symm.trans (hk0.trans hmv.symm))
   subst hkm
   have hat:mo f key z2 = y:=by unfold mo;rw [r2]
   have hhas:a0v f key = true:=by unfold a0v;rw [r2]
   refine ⟨_,hrun, ?_⟩
   cases cm with
   | true =>
    simp only [Option.some.injEq] at hq'
    subst hq'
    rw [hat,hhas]
    exact ⟨[e0.val, .bool true],rfl,r3,⟨rfl,rfl⟩,trivial⟩
   | false =>
    simp only [Option.some.injEq] at hq'
    subst hq'
    rw [hat]
    exact r3
theorem alc (hE:cn P E) {ex:Bool} (h:aq w0 nt c s a w) {o:Oper} {out:Out} (hq':hq E ex s.o (ev s) o.op = some out) (hp:out.pre) :
 ∃ v,(execOp a.eval o).run P w = .ok (.value v) w ∧ b7 c s.o out.val v:=by
 cases ho:o.op <;> rw [ho] at hq' <;> simp only [hq] at hq' <;> try (cases hq';done)
 case move x =>
  cases hx:ev s x with
  | none=>rw [hx] at hq';cases hq'
  | some r =>
   rw [hx] at hq'
   simp only [Option.map_some,Option.some.injEq] at hq'
   subst hq'
   exact ⟨_,by simp [execOp,ho],aj h hx⟩
 case assign x =>
  cases hx:ev s x with
  | none=>rw [hx] at hq';cases hq'
  | some r =>
   rw [hx] at hq'
   simp only [Option.map_some,Option.some.injEq] at hq'
   subst hq'
   exact ⟨_,by simp [execOp,ho],aj h hx⟩
 case pick cc x y=>exact abs ho h hq' hp
 case nilCheck x=>exact adh ho h hq' hp
 case load t x =>
  obtain ⟨v,h1,h2⟩:=a0w hE h hq' hp
  exact ⟨v,by simp [execOp,ho,h1],h2⟩
 case fieldAddr t x k =>
  obtain ⟨v,h1,h2⟩:=a1t hE h hq' hp
  exact ⟨v,by simp [execOp,ho,h1],h2⟩
 case field t x k =>
  obtain ⟨v,h1,h2⟩:=a8q hE h hq'
  exact ⟨v,by simp [execOp,ho,h1],h2⟩
 case indexAddr t x i =>
  obtain ⟨v,h1,h2⟩:=a1p hE h hq' hp
  exact ⟨v,by simp [execOp,ho,h1],h2⟩
 case lookup t x i cm =>
  obtain ⟨v,h1,h2⟩:=a7c hE h hq' hp
  exact ⟨v,by simp [execOp,ho,h1],h2⟩
 case index t x i =>
  obtain ⟨v,h1,h2⟩:=a8x hE h hq' hp
  exact ⟨v,by simp [execOp,ho,h1],h2⟩
 case binOp op t x y ty =>
  obtain ⟨v,h1,h2⟩:∃ v,(do eqGuard op t x y (a.eval x) (a.eval y);binOp op t (a.eval x) (a.eval y):Sem Value).run P w = .ok v w ∧ b7 c s.o out.val v:=by
   split at hq'
   · rename_i r hr
     simp only [Option.some.injEq] at hq'
     subst hq'
     exact a6n hE h hr hp
   · split at hq'
     · rename_i r hr
       simp only [Option.some.injEq] at hq'
       subst hq'
       exact a7a hE h hr hp
     · exact act hE h hq' hp
  refine ⟨v, ?_,h2⟩
  unfold execOp
  simp only [ho]
  rw [Sem.run_bind,h1]
  rfl
 case unOp op t x =>
  obtain ⟨v,h1,h2⟩:=aez (P:=P) h hq' hp
  exact ⟨v,by simp [execOp,ho,h1],h2⟩
 case convert src dst x =>
  obtain ⟨v,h1,h2⟩:=a9g hE h hq' hp
  exact ⟨v,by simp [execOp,ho,h1],h2⟩
 case extract x i =>
  obtain ⟨v,h1,h2⟩:=a5l (P:=P) h hq'
  exact ⟨v,by simp [execOp,ho,h1],h2⟩
 case slice t x lo hi mx =>
  obtain ⟨v,h1,h2⟩:∃ v,(Instr.sliceAt t (a.eval x) (lo.map a.eval) (hi.map a.eval) (mx.map a.eval)).run P w = .ok v w ∧ b7 c s.o out.val v:=by
   split at hq'
   · rename_i r hr
     simp only [Option.some.injEq] at hq'
     subst hq'
     exact yz hE h hr hp
   · exact ad3 hE h hq' hp
  exact ⟨v,by simp [execOp,ho,h1],h2⟩
 case makeFunc fn first caps =>
  obtain ⟨v,h1,h2⟩:=aae (P:=P) h hq'
  exact ⟨v,by simp [execOp,ho,h1],h2⟩
 case build t parts =>
  obtain ⟨v,h1,h2⟩:=a8y hE h hq'
  exact ⟨v,by simp [execOp,ho,h1],h2⟩
 case call cl =>
  split at hq' <;> try (cases hq';done)
  rename_i b hb
  have hrun:∀ v,(builtin b cl.argTypes o.type (cl.args.map fun | .const _=>true | _=>false) (cl.args.map a.eval)).run P w = .ok (.value v) w → (execOp a.eval o).run P w = .ok (.value v) w:=by
   intro v hv
   unfold execOp
   simp only [ho,resolve,hb,Sem.run_bind,Sem.run_pure,Result.andThen_ok,invoke]
   exact hv
  split at hq'
  · rename_i r hr
    simp only [Option.some.injEq] at hq'
    subst hq'
    obtain ⟨v,h1,h2⟩:=ad7 (ty:=o.type) (cs:=cl.args.map fun | .const _=>true | _=>false) hE h hr
    exact ⟨v,hrun v (by rw [← Array.toList_map,Array.toArray_toList,Array.toArray_toList] at h1;exact h1),h2⟩
  · obtain ⟨v,h1,h2⟩:=a6e (ty:=o.type) (cs:=cl.args.map fun | .const _=>true | _=>false) hE h hq' hp
    exact ⟨v,hrun v (by rw [← Array.toList_map,Array.toArray_toList,Array.toArray_toList] at h1;exact h1),h2⟩
end
end Go.Hx
end

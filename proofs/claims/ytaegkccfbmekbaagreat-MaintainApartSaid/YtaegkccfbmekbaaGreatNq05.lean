/- A part of the proof: Hx6. -/
import Derived.Test.YtaegkccfbmekbaaGreatNq04
set_option linter.all false
section
namespace Go.Hx
open Go.RowKit
section
variable {P:Program} {E:Env} {w0:World} {nt:Nat} {c:Ctx} {s:S} {a:Act} {w:World}
theorem a8m (hE:cq P E) (h:al w0 nt c s a w) {t:TypeId} {x ix:Operand} {out:Out} (hq:su E (ev s) t x ix = some out) (hp:out.pre) :
 ∃ v,(Instr.index t (a.eval x) (a.eval ix)).run P w = .ok v w ∧ b7 c s.o out.val v:=by
 unfold su at hq
 split at hq <;> try (cases hq;done)
 rename_i ti b k i hti hx hix
 split at hq <;> try (cases hq;done)
 rename_i hk
 simp only [Option.some.injEq] at hq
 subst hq
 obtain ⟨e1,_⟩:=ai h hx
 obtain ⟨e2,_⟩:=ai h hix
 obtain ⟨ii,d,h1,h2,h3,_⟩:=bc (hE t ti hti)
 have:d = .string:=by cases d <;> simp_all [fl]
 subst this
 rw [e1,e2]
 refine ⟨_, ?_,du rfl⟩
 have hlt:i.toNat < b.size:=by have:=hp.2;have:=hp.1;omega
 have hb:b[i.toNat]? = some b[i.toNat]:=by simp [hlt]
 have hv:cu b i.toNat = ((b[i.toNat].toNat:Nat):Int):=by
  unfold cu
  have h2:i.toNat < b.data.toList.length:=by simpa using hlt
  rw [List.getD_eq_getElem?_getD,List.getElem?_eq_getElem h2]
  rfl
 have hp0:0 ≤ i:=hp.1
 simp only [Instr.index,asIntOf,Sem.run_bind,Sem.run_pure,Result.andThen_ok,run_underlying h2,hp0,if_true,hb,hv]
theorem a5b (h:al w0 nt c s a w) {x:Operand} {i:Nat} {out:Out} (hq:nk (ev s) x i = some out) :
 ∃ v,(Instr.extract (a.eval x) i).run P w = .ok v w ∧ b7 c s.o out.val v:=by
 unfold nk at hq
 split at hq <;> try (cases hq;done)
 rename_i l hx
 split at hq <;> try (cases hq;done)
 rename_i cc hi
 simp only [Option.some.injEq] at hq
 subst hq
 obtain ⟨us,e1,hl⟩:=ai h hx
 obtain ⟨u,hu,hr⟩:=hl.get i cc hi
 rw [e1]
 exact ⟨u,by simp [Instr.extract,hu],hr⟩
theorem ad9 (hE:cq P E) (h:al w0 nt c s a w) {b:Builtin} {args:List Operand} {tys:List TypeId} {ty:TypeId} {cs:Array Bool} {out:Out}
 (hq:nx E (ev s) b args tys = some out):∃ v,(builtin b tys.toArray ty cs (args.map a.eval).toArray).run P w = .ok (.value v) w ∧ b7 c s.o out.val v:=by
 unfold nx at hq
 split at hq <;> try (cases hq;done)
 · rename_i x t tr
   split at hq <;> try (cases hq;done)
   rename_i ti hti
   obtain ⟨ii,d,h1,h2,h3,_⟩:=bc (hE t ti hti)
   split at hq <;> try (cases hq;done)
   · rename_i hk hx
     simp only [Option.some.injEq] at hq
     subst hq
     obtain ⟨e1,_⟩:=ai h hx
     have:d = .string:=by cases d <;> simp_all [fl]
     subst this
     refine ⟨_, ?_,du rfl⟩
     simp [builtin,Builtin.len_,e1,run_underlying h2,goInt]
   · rename_i el hk hx
     simp only [Option.some.injEq] at hq
     subst hq
     obtain ⟨ad,cap,e1,_⟩:=ai h hx
     obtain rfl:=dz (h3.symm.trans hk)
     refine ⟨_, ?_,du rfl⟩
     simp [builtin,Builtin.len_,e1,run_underlying h2,goInt]
 · rename_i x y _
   split at hq <;> try (cases hq;done)
   rename_i k p kk q hx hy
   simp only [Option.some.injEq] at hq
   subst hq
   obtain ⟨e1,_⟩:=ai h hx
   obtain ⟨e2,_⟩:=ai h hy
   refine ⟨_, ?_,du rfl⟩
   simp [builtin,Builtin.min_,e1,e2,Builtin.min2]
 · rename_i x y _
   split at hq <;> try (cases hq;done)
   rename_i k p kk q hx hy
   simp only [Option.some.injEq] at hq
   subst hq
   obtain ⟨e1,_⟩:=ai h hx
   obtain ⟨e2,_⟩:=ai h hy
   refine ⟨_, ?_,du rfl⟩
   simp [builtin,Builtin.max_,e1,e2,Builtin.max2]
theorem a72 (hE:cq P E) (h:al w0 nt c s a w) {b:Builtin} {args:List Operand} {tys:List TypeId} {ty:TypeId} {cs:Array Bool} {out:Out}
 (hq:po E s.o (ev s) b args tys = some out) (hp:out.pre):∃ v,(builtin b tys.toArray ty cs (args.map a.eval).toArray).run P w = .ok (.value v) w ∧ b7 c s.o out.val v:=by
 unfold po at hq
 split at hq <;> try (cases hq;done)
 rename_i x t tr
 split at hq <;> try (cases hq;done)
 rename_i ti hti
 obtain ⟨ii,d,h1,h2,h3,_⟩:=bc (hE t ti hti)
 split at hq <;> try (cases hq;done)
 rename_i el hk
 split at hq <;> try (cases hq;done)
 rename_i hv0 hx
 unfold zk at hq
 split at hq <;> try (cases hq;done)
 · rename_i id n
   have key:∀ (ob:ag) (sz:Nat) (e:TypeId) (n':Nat),s.o id = some ob → ob.dim = some (sz,e,n') → (∃ ad cap,c.own id = .slice ad n' cap ∧ n' ≤ cap ∧ cap ≤ maxLen) → n' = n →
    ∃ v,(builtin .len (t :: tr).toArray ty cs ([x].map a.eval).toArray).run P w = .ok (.value v) w ∧ b7 c s.o (c5 (.raw (.int .i64 n))) v:=by
    rintro ob sz e n' ho hdm hany rfl
    obtain ⟨_,_,h3'⟩:=ai h hx
    obtain ⟨_,hown⟩:=h3' _ _ _ _ ho hdm
    have hu:=hown rfl
    obtain rfl:=dz (h3.symm.trans hk)
    obtain ⟨ad,cap,hv,_⟩:=hany
    rw [hv] at hu
    refine ⟨_, ?_,du rfl⟩
    simp [builtin,Builtin.len_,hu,run_underlying h2,goInt]
   split at hq <;> try (cases hq;done)
   · rename_i wr sz e n' f ho
     simp only [Option.some.injEq] at hq
     subst hq
     exact key _ _ _ _ ho rfl (a7b (h.objs id _ ho)) hp
   · rename_i sz e n' ms f ho
     simp only [Option.some.injEq] at hq
     subst hq
     exact key _ _ _ _ ho rfl (a3d (h.objs id _ ho)) hp
   · rename_i e et es n' m g ho
     simp only [Option.some.injEq] at hq
     subst hq
     refine key _ _ _ _ ho rfl ?_ hp
     obtain ⟨ad,cap,q1,q2,q3,_⟩:=a3e (h.objs id _ ho)
     exact ⟨ad,cap,q1,q2,q3⟩
 · rename_i id i k
   split at hq <;> try (cases hq;done)
   rename_i e et es n m g pd ho
   simp only [Option.some.injEq] at hq
   subst hq
   obtain ⟨hi,rfl⟩:=hp
   obtain ⟨_,h3'⟩:=ai h hx
   obtain ⟨_,_,hrow⟩:=h3' _ _ _ _ _ _ _ ho
   have hu:=hrow rfl
   obtain rfl:=dz (h3.symm.trans hk)
   obtain ⟨ad,cap,hv,_⟩:=aig (h.objs id _ ho) hi
   rw [hv] at hu
   refine ⟨_, ?_,du rfl⟩
   simp [builtin,Builtin.len_,hu,run_underlying h2,goInt]
 · rename_i id n wi wm
   have key:∀ (ob:ag) (sz:Nat) (e:TypeId) (n':Nat),s.o id = some ob → ob.dim = some (sz,e,n') → (∃ ad cap,c.own id = .slice ad n' cap ∧ n' ≤ cap ∧ cap ≤ maxLen) → n' = n →
    ∃ v,(builtin .len (t :: tr).toArray ty cs ([x].map a.eval).toArray).run P w = .ok (.value v) w ∧ b7 c s.o (c5 (.raw (.int .i64 wm))) v:=by
    rintro ob sz e n' ho hdm hany rfl
    obtain ⟨_,_,h3'⟩:=ai h hx
    obtain ⟨_,hown⟩:=h3' _ _ _ _ ho hdm
    obtain ⟨_,_,_,_,hu,_⟩:=hown rfl
    obtain rfl:=dz (h3.symm.trans hk)
    refine ⟨_, ?_,du rfl⟩
    simp [builtin,Builtin.len_,hu,run_underlying h2,goInt]
   split at hq <;> try (cases hq;done)
   · rename_i wr sz e n' f ho
     simp only [Option.some.injEq] at hq
     subst hq
     exact key _ _ _ _ ho rfl (a7b (h.objs id _ ho)) hp
   · rename_i sz e n' ms f ho
     simp only [Option.some.injEq] at hq
     subst hq
     exact key _ _ _ _ ho rfl (a3d (h.objs id _ ho)) hp
theorem a1z (h:al w0 nt c s a w):∀ {xs:List Operand} {l:List PV},uz (ev s) xs = some l → ep c.imm l (xs.map a.eval)
 | [],l,hl=>by simp [uz] at hl;subst hl;trivial
 | x :: xs,l,hl=>by
  simp only [uz] at hl
  split at hl <;> try (cases hl;done)
  rename_i y l' hx hr
  simp only [Option.some.injEq] at hl
  subst hl
  exact ⟨ai h hx,a1z h hr⟩
theorem a2h (h:al w0 nt c s a w):∀ {xs:List Operand} {l:List HV},un (ev s) xs = some l → bq c s.o l (xs.map a.eval)
 | [],l,hl=>by simp [un] at hl;subst hl;trivial
 | x :: xs,l,hl=>by
  simp only [un] at hl
  split at hl <;> try (cases hl;done)
  rename_i y l' hx hr
  simp only [Option.some.injEq] at hl
  subst hl
  exact ⟨ai h hx,a2h h hr⟩
theorem za {c:Ctx} {o:b8}:∀ {l:List HV} {us:List Value} {ps:List PV},bq c o l us → ij l = some ps → ep c.imm ps us
 | [],[],ps,_,h=>by simp [ij] at h;subst h;trivial
 | .p x :: r,u :: us,ps,hr,h=>by
  simp only [ij] at h
  split at h <;> try (cases h;done)
  rename_i l hl
  simp only [Option.some.injEq] at h
  subst h
  exact ⟨hr.1,za hr.2 hl⟩
 | .ref _ _ :: _,_,_,_,h=>by simp [ij] at h
 | .ptr _ _ :: _,_,_,_,h=>by simp [ij] at h
 | .eptr _ _ _ _ :: _,_,_,_,h=>by simp [ij] at h
 | .win _ _ _ _ :: _,_,_,_,h=>by simp [ij] at h
 | .clo _ _ _ :: _,_,_,_,h=>by simp [ij] at h
 | .row _ _ _ :: _,_,_,_,h=>by simp [ij] at h
 | .rptr _ _ _ _ _ :: _,_,_,_,h=>by simp [ij] at h
 | .pin _ _ _ _ :: _,_,_,_,h=>by simp [ij] at h
 | [],_ :: _,_,hr,_=>hr.elim
 | .p _ :: _,[],_,hr,_=>hr.elim
theorem aa3 (h:al w0 nt c s a w) {fn:Fn} {first caps:Array Operand} {out:Out} (hq:w5 (ev s) fn first.toList caps.toList = some out) :
 ∃ v,(Instr.makeFunc fn (first.map a.eval) (caps.map a.eval)).run P w = .ok v w ∧ b7 c s.o out.val v:=by
 unfold w5 at hq
 split at hq <;> try (cases hq;done)
 rotate_left
 · rename_i f x hfirst
   split at hq <;> try (cases hq;done)
   rename_i hs hcaps hx
   split at hq <;> try (cases hq;done)
   rename_i l hl
   simp only [Option.some.injEq] at hq
   subst hq
   have hf:first = #[x]:=by
    apply Array.ext'
    simpa using hfirst
   have hc:caps = #[]:=by
    apply Array.ext'
    simpa using hcaps
   subst hf hc
   obtain ⟨us,e1,hr⟩:=ai h hx
   have hp:=za hr hl
   refine ⟨.func (.func f) #[.agg us.toArray] #[],by simp [Instr.makeFunc,e1],us,rfl,hp.length,fun i hi=>?_⟩
   obtain ⟨u,hu,hrr⟩:=hp.get i l[i] (List.getElem?_eq_getElem hi)
   exact ⟨u,hu,by simpa [List.getD,List.getElem?_eq_getElem hi] using hrr⟩
 rename_i f hfirst
 have hf:first = #[]:=by
  apply Array.ext'
  simpa using hfirst
 subst hf
 split at hq
 rotate_left
 · split at hq <;> try (cases hq;done)
   rename_i l hl
   simp only [Option.some.injEq] at hq
   subst hq
   have hr:=a2h h hl
   refine ⟨.func (.func f) #[] (caps.map a.eval),by simp [Instr.makeFunc],caps.toList.map a.eval,by rw [← Array.toList_map,Array.toArray_toList],by rw [hr.length],fun i hi=>?_⟩
   obtain ⟨u,hu,hrr⟩:=hr.get i l[i] (List.getElem?_eq_getElem hi)
   exact ⟨u,hu,by simpa [List.getD,List.getElem?_eq_getElem hi] using hrr⟩
 rename_i l hl
 simp only [Option.some.injEq] at hq
 subst hq
 have hr:=a1z h hl
 refine ⟨.func (.func f) #[] (caps.map a.eval),by simp [Instr.makeFunc],caps.toList.map a.eval,by rw [← Array.toList_map,Array.toArray_toList],by rw [hr.length],fun i hi=>?_⟩
 obtain ⟨u,hu,hrr⟩:=hr.get i l[i] (List.getElem?_eq_getElem hi)
 exact ⟨u,hu,by simpa [List.getD,List.getElem?_eq_getElem hi] using hrr⟩
theorem acm {o:Oper} {x:Operand} (ho:o.op = .nilCheck x) (h:al w0 nt c s a w) {out:Out} (hq:n8 s.o (ev s) x = some out) (hp:out.pre) :
 ∃ v,(execOp a.eval o).run P w = .ok (.value v) w ∧ b7 c s.o out.val v:=by
 unfold n8 at hq
 split at hq <;> try (cases hq;done)
 · rename_i g k cc hx
   simp only [Option.some.injEq] at hq
   subst hq
   obtain ⟨cs,e1,h2,h3⟩:=ai h hx
   refine ⟨_, ?_,cs,e1,h2,h3⟩
   unfold execOp
   simp [ho,e1]
 · rename_i g k cc hx
   simp only [Option.some.injEq] at hq
   subst hq
   obtain ⟨cs,e1,h2,h3⟩:=ai h hx
   refine ⟨_, ?_,cs,e1,h2,h3⟩
   unfold execOp
   simp [ho,e1]
 · rename_i hh _ _ hx
   split at hq <;> try (cases hq;done)
   rename_i p _ _ ht
   simp only [Option.some.injEq] at hq
   subst hq
   have hu:=ai h hx
   obtain ⟨ad,e1,_⟩:=qr h hu ht hp
   refine ⟨_, ?_,hu⟩
   unfold execOp
   simp [ho,e1]
theorem x9 (hE : cq P E) : ∀ (fs : List Field) (l : List (Nat × Nat)), ug E (fs.map fun f => (f.offset, f.type, f.name == "_")) = some l →
 fs.mapM (fun f=>(P.info? f.type).map fun i=>(f.offset,i.size)) = some l
 | [],l,h=>by simp [ug] at h;subst h;rfl
 | f :: fs,l,h=>by
  simp only [List.map_cons,ug] at h
  split at h <;> try (cases h;done)
  rename_i fi l' hfi hr
  simp only [Option.some.injEq] at h
  subst h
  obtain ⟨ii,d,h1,h2,h3,h4,_⟩:=bc (hE _ _ hfi)
  simp [List.mapM_cons,h1,h4,x9 hE fs l' hr]
theorem zj (o:Nat):∀ (vs:List Value) (i:Nat) (cs:List Value),o + i + vs.length ≤ cs.length →
 (vs.zipIdx i).foldl (fun (cs:Array Value) (p:Value × Nat)=>cs.setIfInBounds (o + p.2) p.1) cs.toArray = (cs.take (o + i) ++ vs ++ cs.drop (o + i + vs.length)).toArray
 | [],i,cs,_=>by simp
 | v :: vs,i,cs,h=>by
  simp only [List.zipIdx_cons,List.foldl_cons]
  have hset:(cs.toArray.setIfInBounds (o + i) v) = (cs.set (o + i) v).toArray:=by simp
  rw [hset,zj o vs (i + 1) (cs.set (o + i) v) (by simp at h ⊢;omega)]
  congr 1
  have h':o + i + (vs.length + 1) ≤ cs.length:=by simpa using h
  apply List.ext_getElem?
  intro j
  simp only [List.getElem?_append,List.length_take,List.length_set,List.length_append,List.length_cons,List.getElem?_take,List.getElem?_drop,List.getElem?_set]
  by_cases h1:j < o + i
  · have e1:j < min (o + (i + 1)) cs.length:=by omega
    have e2:j < min (o + i) cs.length:=by omega
    have e3:j < min (o + (i + 1)) cs.length + vs.length:=by omega
    have e4:j < min (o + i) cs.length + (vs.length + 1):=by omega
    have e5:¬ (o + i = j):=by omega
    have e6:j < o + (i + 1):=by omega
    simp [e1,e2,e3,e4,e5,e6,h1]
  · by_cases h2:j = o + i
    · subst h2
      have e1:o + i < min (o + (i + 1)) cs.length:=by omega
      have e2:¬ (o + i < min (o + i) cs.length):=by omega
      have e3:o + i < min (o + (i + 1)) cs.length + vs.length:=by omega
      have e4:o + i < min (o + i) cs.length + (vs.length + 1):=by omega
      have e6:o + i < o + (i + 1):=by omega
      have e7:o + i < cs.length:=by omega
      have e8:o + i - min (o + i) cs.length = 0:=by omega
      simp [e1,e2,e3,e4,e6,e7,e8]
    · have e1:¬ (j < min (o + (i + 1)) cs.length):=by omega
      have e2:¬ (j < min (o + i) cs.length):=by omega
      have m1:min (o + (i + 1)) cs.length = o + (i + 1):=by omega
      have m2:min (o + i) cs.length = o + i:=by omega
      rw [m1] at e1
      rw [m2] at e2
      simp only [m1,m2,e1,e2,if_false]
      by_cases h3:j < o + (i + 1) + vs.length
      · have h4:j < o + i + (vs.length + 1):=by omega
        have e9:j - (o + i) = (j - (o + (i + 1))) + 1:=by omega
        simp [h3,h4,e9]
      · have h4:¬ (j < o + i + (vs.length + 1)):=by omega
        have e9:¬ (o + i = o + (i + 1) + vs.length + (j - (o + (i + 1) + vs.length))):=by omega
        have e10:o + (i + 1) + vs.length + (j - (o + (i + 1) + vs.length)) = o + i + (vs.length + 1) + (j - (o + i + (vs.length + 1))):=by omega
        simp only [h3,h4,if_false]
        rw [if_neg e9,e10]
theorem jg {o:b8} {x:HC} {u:Value} (h:fb c o x u):bq c o x.cells u.cells.toList ∧ (x.cells.length = u.cells.size):=by
 cases x with
 | one h1 =>
  have hone:=bp.oneCell (c:=c) (o:=o) (h:=h1) h
  have:u.cells = #[u]:=by cases u <;> simp_all [Value.cells,Value.oneCell']
  rw [this]
  exact ⟨⟨h,trivial⟩,rfl⟩
 | agg l =>
  obtain ⟨us,rfl,hl⟩:=h
  exact ⟨by simpa [Value.cells,HC.cells] using hl,by simp [Value.cells,HC.cells,hl.length]⟩
theorem vj (h:al w0 nt c s a w) (places:List (Nat × Nat)):∀ (parts:List (Nat × Operand)) (cells:List HV) (us:List Value) (l:List HV),bq c s.o cells us → fy (ev s) places cells parts = some l →
 ∃ vs:List Value,Instr.fill (fun i=>places[i]?) us.toArray (parts.map fun p=>(p.1,a.eval p.2)) = some vs.toArray ∧ bq c s.o l vs
 | [],cells,us,l,hc,hf=>by
  simp only [fy,Option.some.injEq] at hf
  subst hf
  exact ⟨us,by simp [Instr.fill],hc⟩
 | (i,x) :: r,cells,us,l,hc,hf=>by
  simp only [fy] at hf
  split at hf <;> try (cases hf;done)
  rename_i off size cc hpl hx
  split at hf <;> try (cases hf;done)
  rename_i h1 h2
  have h1:=of_decide_eq_true h1
  have h2:=of_decide_eq_true h2
  have hu:fb c s.o cc (a.eval x):=ai h hx
  obtain ⟨hcl,hsz⟩:=jg hu
  have hlen:=hc.length
  have hset:bq c s.o (bu cells off cc.cells) (us.take off ++ (a.eval x).cells.toList ++ us.drop (off + cc.cells.length)):=((hc.take off).append hcl).append (hc.drop _)
  obtain ⟨vs,hv,hr⟩:=vj h places r _ _ l hset hf
  refine ⟨vs, ?_,hr⟩
  simp only [List.map_cons,Instr.fill,hpl]
  have hb:((a.eval x).cells.size ≠ size || off + (a.eval x).cells.size > us.toArray.size) = false:=by
   simp only [Bool.or_eq_false_iff,decide_eq_false_iff_not,ne_eq,Decidable.not_not,List.size_toArray]
   omega
  have hb':¬ (decide ((a.eval x).cells.size ≠ size) || decide (off + (a.eval x).cells.size > us.toArray.size)) = true:=by
   rw [Bool.not_eq_true]
   exact hb
  rw [if_neg hb']
  have hfold:=zj off (a.eval x).cells.toList 0 us (by simp;omega)
  simp only [Nat.add_zero,Array.length_toList] at hfold
  have hz:(a.eval x).cells.zipIdx.foldl (fun cs (p:Value × Nat)=>cs.setIfInBounds (off + p.2) p.1) us.toArray = ((a.eval x).cells.toList.zipIdx 0).foldl (fun (cs:Array Value) (p:Value × Nat)=>cs.setIfInBounds (off + p.2) p.1) us.toArray:=by
   rw [← Array.foldl_toList]
   simp
  rw [hz,hfold]
  rw [hsz] at hv
  exact hv
theorem a8r (hE:cq P E) (h:al w0 nt c s a w) {t:TypeId} {parts:Array (Nat × Operand)} {out:Out} (hq:so E (ev s) t parts.toList = some out) :
 ∃ v,(Instr.build t (parts.map fun (i,x)=>(i,a.eval x))).run P w = .ok v w ∧ b7 c s.o out.val v:=by
 unfold so at hq
 split at hq <;> try (cases hq;done)
 rename_i i hi
 split at hq <;> try (cases hq;done)
 rename_i fs z hk hz
 split at hq <;> try (cases hq;done)
 rename_i places hpl hone
 split at hq <;> try (cases hq;done)
 rename_i l hf
 simp only [Option.some.injEq] at hq
 subst hq
 obtain ⟨ii,d,h1,h2,h3,h4,h5,h6,_⟩:=bc (hE t i hi)
 obtain ⟨fa,rfl,hfa⟩:=qb (h3.symm.trans hk)
 rw [hfa] at hpl
 have hplaces:=x9 hE fa.toList places hpl
 rw [hz] at h6
 cases hiz:ii.zero with
 | none=>rw [hiz] at h6;cases h6
 | some zv =>
  rw [hiz] at h6
  simp only [Option.map_some,Option.some.injEq] at h6
  obtain ⟨vs,hv,hr⟩:=vj h places parts.toList _ z l (sg c s.o z (ig hone)) hf
  refine ⟨.agg vs.toArray, ?_,vs,rfl,hr⟩;refine run_build w t _ vs.toArray ?_
  unfold Program.built
  simp only [h1,h2,hiz,hplaces]
  have hzz:zv.cells = z.toArray:=by rw [h6]
  rw [hzz]
  simpa using hv
theorem tw (w:World) (d:Nat) (t e:TypeId) (ad:Option Addr) (l cp:Nat) (h:P.underlying t = some (.slice e)):(Op.equalIn (d + 1) t (.slice ad l cp) (.slice none 0 0)).run P w = .ok ad.isNone w:=by
 cases ad <;> simp [Op.equalIn,run_underlying h]
theorem a98 (w:World) (t e:TypeId) (ad:Option Addr) (l cp:Nat) (h:P.underlying t = some (.slice e)):(binOp .eql t (.slice ad l cp) (.slice none 0 0)).run P w = .ok (.bool ad.isNone) w:=by
 have h1:binOp .eql t (.slice ad l cp) (.slice none 0 0) = (Op.equal t (.slice ad l cp) (.slice none 0 0) >>= fun b=>pure (.bool b)):=by simp only [binOp]
 have h2:(Op.equal t (.slice ad l cp) (.slice none 0 0)).run P w = .ok ad.isNone w:=tw w 9999 t e ad l cp h
 rw [h1,Sem.run_bind,h2]
 rfl
theorem aad (w:World) (t e:TypeId) (ad:Option Addr) (l cp:Nat) (h:P.underlying t = some (.slice e)):(binOp .neq t (.slice ad l cp) (.slice none 0 0)).run P w = .ok (.bool (!ad.isNone)) w:=by
 have h1:binOp .neq t (.slice ad l cp) (.slice none 0 0) = (Op.equal t (.slice ad l cp) (.slice none 0 0) >>= fun b=>pure (.bool (!b))):=by simp only [binOp]
 have h2:(Op.equal t (.slice ad l cp) (.slice none 0 0)).run P w = .ok ad.isNone w:=tw w 9999 t e ad l cp h
 rw [h1,Sem.run_bind,h2]
 rfl
theorem a6t (hE:cq P E) (h:al w0 nt c s a w) {op:BinOp} {t:TypeId} {x y:Operand} {out:Out} (hq:pi E (ev s) op t x y = some out) (hp:out.pre) :
 ∃ v,(do eqGuard op t x y (a.eval x) (a.eval y);binOp op t (a.eval x) (a.eval y):Sem Value).run P w = .ok v w ∧ b7 c s.o out.val v:=by
 unfold pi at hq
 split at hq <;> try (cases hq;done)
 split at hq <;> try (cases hq;done)
 rename_i i hi
 split at hq <;> try (cases hq;done)
 rename_i el hk
 obtain ⟨ii,d,h1,h2,h3,_⟩:=bc (hE t i hi)
 obtain rfl:=dz (h3.symm.trans hk)
 have hg:∀ ad l cp,(eqGuard op t x (.const (.slice none 0 0)) (.slice ad l cp) (.slice none 0 0)).run P w = .ok () w:=by intro ad l cp;cases op <;> simp [eqGuard]
 have core:∀ ad l cp,a.eval x = .slice ad l cp → xc op ad = some out → ∃ v,(do eqGuard op t x (.const (.slice none 0 0)) (a.eval x) (a.eval (.const (.slice none 0 0)));binOp op t (a.eval x) (a.eval (.const (.slice none 0 0))):Sem Value).run P w = .ok v w ∧ b7 c s.o out.val v:=by
  intro ad l cp he hn
  have e2:a.eval (.const (.slice none 0 0)) = .slice none 0 0:=rfl
  rw [he,e2,Sem.run_bind,hg,Result.andThen_ok]
  cases op <;> simp only [xc] at hn <;> try (cases hn;done)
  · simp only [Option.some.injEq] at hn;subst hn
    exact ⟨_,a98 w t el ad l cp h2,du rfl⟩
  · simp only [Option.some.injEq] at hn;subst hn
    exact ⟨_,aad w t el ad l cp h2,du rfl⟩
 split at hq <;> try (cases hq;done)
 · rename_i n sz cl f hx
   obtain ⟨ad,cap,e1,_,_,_,hc⟩:=ai h hx
   have hn:0 < n:=by
    cases op <;> simp only [abo] at hq <;> first | (cases hq;done) | (simp only [Option.some.injEq] at hq;subst hq;exact hp)
   obtain ⟨b,off,rfl,_⟩:=hc hn
   refine core _ _ _ e1 ?_
   cases op <;> simp only [abo] at hq <;> first | (cases hq;done) | skip
   · simp only [Option.some.injEq] at hq;subst hq
     have:(0 < n) = True:=by simp [hn]
     simp [xc,this]
   · simp only [Option.some.injEq] at hq;subst hq
     have:(0 < n) = True:=by simp [hn]
     simp [xc,this]
 · rename_i ad l cp hx
   obtain ⟨e1,_⟩:=ai h hx
   exact core ad l cp e1 hq
theorem abq {d:TypeDesc} {e:TypeId} (h:fl d = .pointer e):d = .pointer e:=by
 cases d <;> simp [fl] at h
 rw [h]
theorem ua (w:World) (d:Nat) (t e:TypeId) (p:Option Addr) (h:P.underlying t = some (.pointer e)):(Op.equalIn (d + 1) t (.pointer p) (.pointer none)).run P w = .ok p.isNone w:=by
 cases p <;> simp [Op.equalIn,run_underlying h]
theorem ac7 (w:World) (t e:TypeId) (p:Option Addr) (h:P.underlying t = some (.pointer e)):(binOp .eql t (.pointer p) (.pointer none)).run P w = .ok (.bool p.isNone) w:=by
 have h1:binOp .eql t (.pointer p) (.pointer none) = (Op.equal t (.pointer p) (.pointer none) >>= fun b=>pure (.bool b)):=by simp only [binOp]
 have h2:(Op.equal t (.pointer p) (.pointer none)).run P w = .ok p.isNone w:=ua w 9999 t e p h
 rw [h1,Sem.run_bind,h2]
 rfl
theorem a9d (w:World) (t e:TypeId) (p:Option Addr) (h:P.underlying t = some (.pointer e)):(binOp .neq t (.pointer p) (.pointer none)).run P w = .ok (.bool (!p.isNone)) w:=by
 have h1:binOp .neq t (.pointer p) (.pointer none) = (Op.equal t (.pointer p) (.pointer none) >>= fun b=>pure (.bool (!b))):=by simp only [binOp]
 have h2:(Op.equal t (.pointer p) (.pointer none)).run P w = .ok p.isNone w:=ua w 9999 t e p h
 rw [h1,Sem.run_bind,h2]
 rfl
theorem a7h (hE:cq P E) (h:al w0 nt c s a w) {op:BinOp} {t:TypeId} {x y:Operand} {out:Out} (hq:ip E s.o (ev s) op t x y = some out) (hp:out.pre) :
 ∃ v,(do eqGuard op t x y (a.eval x) (a.eval y);binOp op t (a.eval x) (a.eval y):Sem Value).run P w = .ok v w ∧ b7 c s.o out.val v:=by
 unfold ip at hq
 split at hq <;> try (cases hq;done)
 split at hq <;> try (cases hq;done)
 rename_i i hi
 split at hq <;> try (cases hq;done)
 rename_i el hk
 obtain ⟨ii,d,h1,h2,h3,_⟩:=bc (hE t i hi)
 obtain rfl:=abq (h3.symm.trans hk)
 have hg:∀ p,(eqGuard op t x (.const (.pointer none)) (.pointer p) (.pointer none)).run P w = .ok () w:=by intro p;cases op <;> simp [eqGuard]
 have core:∀ p,a.eval x = .pointer p → a43 op p.isNone = some out → ∃ v,(do eqGuard op t x (.const (.pointer none)) (a.eval x) (a.eval (.const (.pointer none)));binOp op t (a.eval x) (a.eval (.const (.pointer none))):Sem Value).run P w = .ok v w ∧ b7 c s.o out.val v:=by
  intro p he hn
  have e2:a.eval (.const (.pointer none)) = .pointer none:=rfl
  rw [he,e2,Sem.run_bind,hg,Result.andThen_ok]
  cases op <;> simp only [a43] at hn <;> try (cases hn;done)
  · simp only [Option.some.injEq] at hn;subst hn
    exact ⟨_,ac7 w t el p h2,du rfl⟩
  · simp only [Option.some.injEq] at hn;subst hn
    exact ⟨_,a9d w t el p h2,du rfl⟩
 split at hq <;> try (cases hq;done)
 rename_i hv hx
 have hr:=ai h hx
 unfold wj at hq
 split at hq <;> try (cases hq;done)
 · rename_i id off
   split at hq <;> try (cases hq;done)
   rename_i l hl
   obtain ⟨b,_,hu⟩:=hr.2.2 l hl
   exact core _ hu hq
 · rename_i p
   exact core p hr.1 hq
theorem a9m {o:Oper} {x0 x y:Operand} (ho:o.op = .pick x0 x y) (h:al w0 nt c s a w) {out:Out} (hq:wh (ev s) x0 x y = some out) (hp:out.pre) :
 ∃ v,(execOp a.eval o).run P w = .ok (.value v) w ∧ b7 c s.o out.val v:=by
 unfold wh at hq
 split at hq <;> try (cases hq;done)
 rename_i b hb
 obtain ⟨e1,_⟩:=ai h hb
 have hrun:(execOp a.eval o).run P w = .ok (.value (if b then a.eval x else a.eval y)) w:=by simp [execOp,ho,e1,asBool]
 refine ⟨_,hrun, ?_⟩
 unfold amr at hq
 split at hq
 · rename_i u v hx hy
   simp only [Option.some.injEq] at hq
   subst hq
   obtain ⟨e2,_⟩:=ai h hx
   obtain ⟨e3,_⟩:=ai h hy
   rw [e2,e3]
   cases b <;> exact ⟨rfl,rfl⟩
 · rename_i r hx hy
   simp only [Option.some.injEq] at hq
   subst hq
   have hp:b = true:=hp
   subst hp
   exact ai h hx
 · rename_i r _ hx hy
   simp only [Option.some.injEq] at hq
   subst hq
   have hp:b = true:=hp
   subst hp
   exact ai h hx
 · rename_i r hx hy
   simp only [Option.some.injEq] at hq
   subst hq
   have hp:b = false:=hp
   subst hp
   exact ai h hy
 · rename_i r _ _ hx hy
   simp only [Option.some.injEq] at hq
   subst hq
   have hp:b = false:=hp
   subst hp
   exact ai h hy
 · rename_i r r' _ _ _ hx hy
   cases b
   · simp only [Option.some.injEq] at hq
     subst hq
     exact ai h hy
   · simp only [Option.some.injEq] at hq
     subst hq
     exact ai h hx
 · cases hq
theorem a2j {k:TypeId} {ki:TI} (hE:cq P E) (hk:E k = some ki) {kk:KK} (hkk:a0e ki.k = some kk):Go.Maps.Keyed P k ∧ ∀ m,MK.ok kk m → ∃ l,keyOf P k m.val = some l:=by
 obtain ⟨ii,d,h1,h2,h3,_⟩:=bc (hE k ki hk)
 rw [h3] at hkk
 cases d <;> simp only [fl,a0e] at hkk <;> try (cases hkk;done)
 · rename_i q
   simp only [Option.some.injEq] at hkk
   subst hkk
   refine ⟨Go.Maps.int_keyed h2,fun m hm=>?_⟩
   cases m with
   | i q' n =>
    obtain ⟨rfl,hw⟩:=hm
    exact ⟨_,Go.Maps.keyOf_int_mk h2 hw⟩
   | s b=>exact hm.elim
 · simp only [Option.some.injEq] at hkk
   subst hkk
   refine ⟨Go.Maps.string_keyed h2,fun m hm=>?_⟩
   cases m with
   | i q' n=>exact hm.elim
   | s b=>exact ⟨_,Go.WideMaps.keyOf_string_mk h2 hm⟩
theorem a9v (hE:cq P E) {kt et t:TypeId} {kk:KK} {z:Value} (ht:P.underlying t = some (.map kt et)) (hlk:a91 E kt et = some (kk,z)) {b:Nat} {es:Array MapEntry} {clock:Nat} (q4:w.heap[b]? = some (.map es clock))
 (q5:Go.MapKept.Stamped es clock) (q7:es.size ≤ maxLen) {has:MK → Prop} {R:MK → Value → Prop} (q8:∀ x ∈ es.toList,∃ key,x.key = key.val ∧ has key ∧ R key x.val) (q9:∀ key,has key → MK.ok kk key ∧ ∃ x ∈ es.toList,x.key = key.val) {m:MK} (hok:MK.ok kk m) (cm:Bool) :
 z.oneCell' = true ∧ ((¬ has m ∧ (Instr.lookup t (.map (some b)) m.val cm).run P w = .ok (if cm then .tuple #[z, .bool false] else z) w) ∨
 ∃ v,has m ∧ R m v ∧ (Instr.lookup t (.map (some b)) m.val cm).run P w = .ok (if cm then .tuple #[v, .bool true] else v) w):=by
 unfold a91 at hlk
 split at hlk <;> try (cases hlk;done)
 rename_i ki ei hki hei
 split at hlk <;> try (cases hlk;done)
 rename_i kk2 z2 e1 e2 e3
 simp only [Option.some.injEq,Prod.mk.injEq] at hlk
 obtain ⟨rfl,rfl⟩:=hlk
 obtain ⟨hz,hz1⟩:=agw (hE et ei hei) e3 e2 w
 obtain ⟨K,hkey⟩:=a2j hE hki e1
 obtain ⟨l,hl⟩:=hkey m hok
 refine ⟨hz1, ?_⟩
 rcases ajq cm K ht hz q4 q7 q5 (fun x hx=>by
  obtain ⟨key,r1,r2,_⟩:=q8 x hx
  rw [r1]
  exact hkey key (q9 key r2).1) hl with ⟨hrun,hno⟩ | ⟨e0,he0,hk0,hrun⟩
 · exact .inl ⟨fun hm=>by
    obtain ⟨x0,hx0,hxk⟩:=(q9 m hm).2
    exact hno x0 hx0 hxk,hrun⟩
 · obtain ⟨key,r1,r2,r3⟩:=q8 e0 he0
   have hkm:key = m:=MK.val_inj (r1.symm.trans hk0)
   subst hkm
   exact .inr ⟨_,r2,r3,hrun⟩
theorem a7c (hE:cq P E) (h:al w0 nt c s a w) {t:TypeId} {x ix:Operand} {cm:Bool} {out:Out} (hq':iu E s.o (ev s) t x ix cm = some out) (hp:out.pre) :
 ∃ v,(Instr.lookup t (a.eval x) (a.eval ix) cm).run P w = .ok v w ∧ b7 c s.o out.val v:=by
 unfold iu at hq'
 split at hq' <;> try (cases hq';done)
 rename_i i hi
 split at hq' <;> try (cases hq';done)
 rename_i kt et hmk
 split at hq' <;> try (cases hq';done)
 rename_i kk z hlk
 split at hq' <;> try (cases hq';done)
 rename_i kv hix
 split at hq' <;> try (cases hq';done)
 rename_i m hm
 split at hq' <;> try (cases hq';done)
 rename_i hv hx
 obtain ⟨ii,d,h1,h2,h3,_⟩:=bc (hE t i hi)
 have ht:P.underlying t = some (.map kt et):=by
  rw [h2]
  have h4:=h3.symm.trans hmk
  cases d <;> simp [fl] at h4
  obtain ⟨rfl,rfl⟩:=h4
  rfl
 obtain ⟨hu2,_⟩:=ai h hix
 have hmv:=abi hm
 rw [hu2,← hmv]
 unfold a4i at hq'
 split at hq' <;> try (cases hq';done)
 · rename_i kk' n has f
   have hp':kk' = kk ∧ MK.ok kk m:=by
    cases cm <;> (simp only [Option.some.injEq] at hq';subst hq';exact hp)
   obtain ⟨rfl,hok⟩:=hp'
   obtain ⟨b,es,clock,q1,q4,q5,q6,q7,q8,q9⟩:=ai h hx
   rw [q1]
   obtain ⟨hz1,⟨hno,hrun⟩ | ⟨v,hyes,hR,hrun⟩⟩:=a9v (has:=fun k=>has k = true) (R:=fun k v=>b9 c.imm (f k) v) hE ht hlk (h.imm _ _ q4) q5 q7 q8 q9 hok cm
   · refine ⟨_,hrun, ?_⟩
     have hat:w9 has f m z = jx z:=by unfold w9;rw [Bool.not_eq_true _ |>.mp hno]
     rw [hat] at hq'
     cases cm with
     | true =>
      simp only [Option.some.injEq] at hq'
      subst hq'
      rw [Bool.not_eq_true _ |>.mp hno]
      exact ⟨[z, .bool false],rfl,ko _ _ hz1,⟨rfl,rfl⟩,trivial⟩
     | false =>
      simp only [Option.some.injEq] at hq'
      subst hq'
      exact ko _ _ hz1
   · refine ⟨_,hrun, ?_⟩
     have hat:w9 has f m z = f m:=by unfold w9;rw [hyes]
     rw [hat] at hq'
     cases cm with
     | true =>
      simp only [Option.some.injEq] at hq'
      subst hq'
      rw [hyes]
      exact ⟨[v, .bool true],rfl,hR,⟨rfl,rfl⟩,trivial⟩
     | false =>
      simp only [Option.some.injEq] at hq'
      subst hq'
      exact hR
 rename_i id k0
 split at hq' <;> try (cases hq';done)
 rename_i kk' n f hob
 obtain ⟨b,es,clock,q1,q2,q3,q4,q5,q6,q7,q8,q9⟩:=h.objs id _ hob
 obtain ⟨_,_,g3⟩:=ai h hx
 obtain ⟨g4,g5⟩:=g3 _ _ _ _ hob rfl
 have hu:a.eval x = .map (some b):=by rw [g5 (by omega),q1]
 have hp':kk' = kk ∧ MK.ok kk m:=by
  cases cm <;> (simp only [Option.some.injEq] at hq';subst hq';exact hp)
 obtain ⟨rfl,hok⟩:=hp'
 rw [hu]
 obtain ⟨hz1,⟨hno,hrun⟩ | ⟨v,_,⟨y,hy,hR⟩,hrun⟩⟩:=a9v (has:=fun k=>f k ≠ none) (R:=fun k v=>∃ y,f k = some y ∧ b9 c.imm y v) hE ht hlk q4 q5 q7
  (fun x hx=>by
   obtain ⟨key,y,r1,r2,r3⟩:=q8 x hx
   exact ⟨key,r1,by rw [r2];simp,y,r2,r3⟩)
  (fun key hk=>by
   cases hf:f key with
   | none=>exact absurd hf hk
   | some y=>exact q9 key y hf) hok cm
 · have hf:f m = none:=Classical.not_not.1 hno
   have hat:me f m z = jx z:=by unfold me;rw [hf]
   have hhas:a08 f m = false:=by unfold a08;rw [hf]
   refine ⟨_,hrun, ?_⟩
   cases cm with
   | true =>
    simp only [Option.some.injEq] at hq'
    subst hq'
    rw [hat,hhas]
    exact ⟨[z, .bool false],rfl,ko _ _ hz1,⟨rfl,rfl⟩,trivial⟩
   | false =>
    simp only [Option.some.injEq] at hq'
    subst hq'
    rw [hat]
    exact ko _ _ hz1
 · have hat:me f m z = y:=by unfold me;rw [hy]
   have hhas:a08 f m = true:=by unfold a08;rw [hy]
   refine ⟨_,hrun, ?_⟩
   cases cm with
   | true =>
    simp only [Option.some.injEq] at hq'
    subst hq'
    rw [hat,hhas]
    exact ⟨[v, .bool true],rfl,hR,⟨rfl,rfl⟩,trivial⟩
   | false =>
    simp only [Option.some.injEq] at hq'
    subst hq'
    rw [hat]
    exact hR
theorem ajr (hE:cq P E) {ex:Bool} (h:al w0 nt c s a w) {o:Oper} {out:Out} (hq':hq E ex s.o (ev s) o.op = some out) (hp:out.pre) :
 ∃ v,(execOp a.eval o).run P w = .ok (.value v) w ∧ b7 c s.o out.val v:=by
 cases ho:o.op <;> rw [ho] at hq' <;> simp only [hq] at hq' <;> try (cases hq';done)
 case move x =>
  cases hx:ev s x with
  | none=>rw [hx] at hq';cases hq'
  | some r =>
   rw [hx] at hq'
   simp only [Option.map_some,Option.some.injEq] at hq'
   subst hq'
   exact ⟨_,by simp [execOp,ho],ai h hx⟩
 case assign x =>
  cases hx:ev s x with
  | none=>rw [hx] at hq';cases hq'
  | some r =>
   rw [hx] at hq'
   simp only [Option.map_some,Option.some.injEq] at hq'
   subst hq'
   exact ⟨_,by simp [execOp,ho],ai h hx⟩
 case pick cc x y=>exact a9m ho h hq' hp
 case nilCheck x=>exact acm ho h hq' hp
 case load t x =>
  obtain ⟨v,h1,h2⟩:=zw hE h hq' hp
  exact ⟨v,by simp [execOp,ho,h1],h2⟩
 case fieldAddr t x k =>
  obtain ⟨v,h1,h2⟩:=a1q hE h hq' hp
  exact ⟨v,by simp [execOp,ho,h1],h2⟩
 case field t x k =>
  obtain ⟨v,h1,h2⟩:=a8l hE h hq'
  exact ⟨v,by simp [execOp,ho,h1],h2⟩
 case indexAddr t x i =>
  obtain ⟨v,h1,h2⟩:=a1r hE h hq' hp
  exact ⟨v,by simp [execOp,ho,h1],h2⟩
 case lookup t x i cm =>
  obtain ⟨v,h1,h2⟩:=a7c hE h hq' hp
  exact ⟨v,by simp [execOp,ho,h1],h2⟩
 case index t x i =>
  obtain ⟨v,h1,h2⟩:=a8m hE h hq' hp
  exact ⟨v,by simp [execOp,ho,h1],h2⟩
 case binOp op t x y ty =>
  obtain ⟨v,h1,h2⟩:∃ v,(do eqGuard op t x y (a.eval x) (a.eval y);binOp op t (a.eval x) (a.eval y):Sem Value).run P w = .ok v w ∧ b7 c s.o out.val v:=by
   split at hq'
   · rename_i r hr
     simp only [Option.some.injEq] at hq'
     subst hq'
     exact a6t hE h hr hp
   · split at hq'
     · rename_i r hr
       simp only [Option.some.injEq] at hq'
       subst hq'
       exact a7h hE h hr hp
     · exact acv hE h hq' hp
  refine ⟨v, ?_,h2⟩
  unfold execOp
  simp only [ho]
  rw [Sem.run_bind,h1]
  rfl
 case unOp op t x =>
  obtain ⟨v,h1,h2⟩:=afc (P:=P) h hq' hp
  exact ⟨v,by simp [execOp,ho,h1],h2⟩
 case convert src dst x =>
  obtain ⟨v,h1,h2⟩:=aa7 hE h hq' hp
  exact ⟨v,by simp [execOp,ho,h1],h2⟩
 case extract x i =>
  obtain ⟨v,h1,h2⟩:=a5b (P:=P) h hq'
  exact ⟨v,by simp [execOp,ho,h1],h2⟩
 case slice t x lo hi mx =>
  obtain ⟨v,h1,h2⟩:∃ v,(Instr.sliceAt t (a.eval x) (lo.map a.eval) (hi.map a.eval) (mx.map a.eval)).run P w = .ok v w ∧ b7 c s.o out.val v:=by
   split at hq'
   · rename_i r hr
     simp only [Option.some.injEq] at hq'
     subst hq'
     exact yx hE h hr hp
   · exact ada hE h hq' hp
  exact ⟨v,by simp [execOp,ho,h1],h2⟩
 case makeFunc fn first caps =>
  obtain ⟨v,h1,h2⟩:=aa3 (P:=P) h hq'
  exact ⟨v,by simp [execOp,ho,h1],h2⟩
 case build t parts =>
  obtain ⟨v,h1,h2⟩:=a8r hE h hq'
  exact ⟨v,by simp [execOp,ho,h1],h2⟩
 case call cl =>
  split at hq' <;> try (cases hq';done)
  rename_i b hb
  have hrun:∀ v,(builtin b cl.argTypes o.type (cl.args.map fun | .const _=>true | _=>false) (cl.args.map a.eval)).run P w = .ok (.value v) w → (execOp a.eval o).run P w = .ok (.value v) w:=by
   intro v hv
   unfold execOp
   simp only [ho,resolve,hb,Sem.run_bind,Sem.run_pure,Result.andThen_ok,invoke]
   exact hv
  split at hq'
  · rename_i r hr
    simp only [Option.some.injEq] at hq'
    subst hq'
    obtain ⟨v,h1,h2⟩:=ad9 (ty:=o.type) (cs:=cl.args.map fun | .const _=>true | _=>false) hE h hr
    exact ⟨v,hrun v (by rw [← Array.toList_map,Array.toArray_toList,Array.toArray_toList] at h1;exact h1),h2⟩
  · obtain ⟨v,h1,h2⟩:=a72 (ty:=o.type) (cs:=cl.args.map fun | .const _=>true | _=>false) hE h hq' hp
    exact ⟨v,hrun v (by rw [← Array.toList_map,Array.toArray_toList,Array.toArray_toList] at h1;exact h1),h2⟩
end
end Go.Hx
end

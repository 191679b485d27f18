/- A part of the proof: Hx6. -/
import Derived.Test.YtkkenjdfbojdlaaGreatDoorMx04
set_option linter.all false
namespace Go.Hx
section
open Go.RowKit
section
variable {P:Program} {E:Env} {w0:World} {nt:Nat} {c:Ctx} {s:S} {a:Act} {w:World}
section
variable {out:Out} {t:TypeId} {x:Operand}
def ak1 (hE:db P E) (h:aj w0 nt c s a w) {ix:Operand} (hq:a0e E (ev s) t x ix = some out) (hp:out.pre):
 ∃ v,(Instr.index t (a.eval x) (a.eval ix)).run P w = .ok v w /\ ar c s.o out.val v:=by
 unfold a0e at hq;split at hq <;> try (cases hq;done)
 rename_i ti b k i hti hx hix;split at hq <;> try (cases hq;done)
 rename_i hk;simp only [bo5] at hq;subst hq;obtain ⟨e1,_⟩:=af h hx;obtain ⟨e2,_⟩:=af h hix;obtain ⟨ii,d,h1,h2,h3,_⟩:=b8 (hE t ti hti);have:d = .string:=by cases d <;> simp_all [lj]
 subst this;rw [e1,e2];refine ⟨_, ?_,i9 rfl⟩;have hlt:i.toNat < b.size:=by have:=hp.2;have:=hp.1;omega
 have hb:b[i.toNat]? = some b[i.toNat]:=by simp [hlt]
 have hv:mj b i.toNat = ((b[i.toNat].toNat:Nat):Int):=by
  unfold mj;have h2:i.toNat < b.data.toList.length:=by simpa using hlt
  rw [bo7,bo6 h2];rfl
 have hp0:0 <= i:=hp.1;simp only [Instr.index,asIntOf,bpb,bq5,bow,run_underlying h2,hp0,if_true,hb,hv]
def ae5 (h:aj w0 nt c s a w) {i:Nat} (hq:vm (ev s) x i = some out):
 ∃ v,(Instr.extract (a.eval x) i).run P w = .ok v w /\ ar c s.o out.val v:=by
 unfold vm at hq;split at hq <;> try (cases hq;done)
 rename_i l hx;split at hq <;> try (cases hq;done)
 rename_i cc hi;simp only [bo5] at hq;subst hq;obtain ⟨us,e1,hl⟩:=af h hx;obtain ⟨u,hu,hr⟩:=hl.get i cc hi;rw [e1];exact ⟨u,by simp [Instr.extract,hu],hr⟩
def ar4 (hE:db P E) (h:aj w0 nt c s a w) {b:Builtin} {args:List Operand} {tys:List TypeId} {ty:TypeId} {cs:Array Bool} (hq:vq E (ev s) b args tys = some out):∃ v,(builtin b tys.toArray ty cs (args.map a.eval).toArray).run P w = .ok (.value v) w /\ ar c s.o out.val v:=by
 unfold vq at hq;split at hq <;> try (cases hq;done)
 · rename_i x t tr
   split at hq <;> try (cases hq;done)
   rename_i ti hti;obtain ⟨ii,d,h1,h2,h3,_⟩:=b8 (hE t ti hti);split at hq <;> try (cases hq;done)
   · rename_i hk hx
     simp only [bo5] at hq;subst hq;obtain ⟨e1,_⟩:=af h hx;have:d = .string:=by cases d <;> simp_all [lj]
     subst this;refine ⟨_, ?_,i9 rfl⟩;simp [builtin,Builtin.len_,e1,run_underlying h2,goInt]
   rename_i el hk hx;simp only [bo5] at hq;subst hq;obtain ⟨ad,cap,e1,_⟩:=af h hx;obtain rfl:=ff (h3.symm.trans hk);refine ⟨_, ?_,i9 rfl⟩;simp [builtin,Builtin.len_,e1,run_underlying h2,goInt]
 · rename_i x y _
   split at hq <;> try (cases hq;done)
   rename_i k p kk q hx hy;simp only [bo5] at hq;subst hq;obtain ⟨e1,_⟩:=af h hx;obtain ⟨e2,_⟩:=af h hy;refine ⟨_, ?_,i9 rfl⟩;simp [builtin,Builtin.min_,e1,e2,Builtin.min2]
 rename_i x y _;split at hq <;> try (cases hq;done)
 rename_i k p kk q hx hy;simp only [bo5] at hq;subst hq;obtain ⟨e1,_⟩:=af h hx;obtain ⟨e2,_⟩:=af h hy;refine ⟨_, ?_,i9 rfl⟩;simp [builtin,Builtin.max_,e1,e2,Builtin.max2]
def ahg (hE:db P E) (h:aj w0 nt c s a w) {b:Builtin} {args:List Operand} {tys:List TypeId} {ty:TypeId} {cs:Array Bool} (hq:xo E s.o (ev s) b args tys = some out) (hp:out.pre):∃ v,(builtin b tys.toArray ty cs (args.map a.eval).toArray).run P w = .ok (.value v) w /\ ar c s.o out.val v:=by
 unfold xo at hq;split at hq <;> try (cases hq;done)
 rename_i x t tr;split at hq <;> try (cases hq;done)
 rename_i ti hti;obtain ⟨ii,d,h1,h2,h3,_⟩:=b8 (hE t ti hti);split at hq <;> try (cases hq;done)
 rename_i el hk;split at hq <;> try (cases hq;done)
 rename_i hv0 hx;unfold a7y at hq;split at hq <;> try (cases hq;done)
 · rename_i id n
   have key:∀ (ob:a8) (sz:Nat) (e:TypeId) (n':Nat),s.o id = some ob -> ob.dim = some (sz,e,n') -> (∃ ad cap,c.own id = .slice ad n' cap /\ n' <= cap /\ cap <= maxLen) -> n' = n ->
    ∃ v,(builtin .len (t :: tr).toArray ty cs ([x].map a.eval).toArray).run P w = .ok (.value v) w /\ ar c s.o (bn (.raw (.int .i64 n))) v:=by
    rintro ob sz e n' ho hdm hany rfl;obtain ⟨_,_,h3'⟩:=af h hx;obtain ⟨_,hown⟩:=h3' _ _ _ _ ho hdm;have hu:=hown rfl;obtain rfl:=ff (h3.symm.trans hk);obtain ⟨ad,cap,hv,_⟩:=hany;rw [hv] at hu;refine ⟨_, ?_,i9 rfl⟩;simp [builtin,Builtin.len_,hu,run_underlying h2,goInt]
   split at hq <;> try (cases hq;done)
   · rename_i wr sz e n' f ho
     simp only [bo5] at hq;subst hq;exact key _ _ _ _ ho rfl (a0b (h.objs id _ ho)) hp
   · rename_i sz e n' ms f ho
     simp only [bo5] at hq;subst hq;exact key _ _ _ _ ho rfl (abn (h.objs id _ ho)) hp
   rename_i e et es n' m g ho;simp only [bo5] at hq;subst hq;refine key _ _ _ _ ho rfl ?_ hp;obtain ⟨ad,cap,q1,q2,q3,_⟩:=acn (h.objs id _ ho);exact ⟨ad,cap,q1,q2,q3⟩
 · rename_i id i k
   split at hq <;> try (cases hq;done)
   rename_i e et es n m g pd ho;simp only [bo5] at hq;subst hq;obtain ⟨hi,rfl⟩:=hp;obtain ⟨_,h3'⟩:=af h hx;obtain ⟨_,_,hrow⟩:=h3' _ _ _ _ _ _ _ ho;have hu:=hrow rfl;obtain rfl:=ff (h3.symm.trans hk);obtain ⟨ad,cap,hv,_⟩:=ajk (h.objs id _ ho) hi;rw [hv] at hu;refine ⟨_, ?_,i9 rfl⟩;simp [builtin,Builtin.len_,hu,run_underlying h2,goInt]
 rename_i id n wi wm
 have key:∀ (ob:a8) (sz:Nat) (e:TypeId) (n':Nat),s.o id = some ob -> ob.dim = some (sz,e,n') -> (∃ ad cap,c.own id = .slice ad n' cap /\ n' <= cap /\ cap <= maxLen) -> n' = n ->
  ∃ v,(builtin .len (t :: tr).toArray ty cs ([x].map a.eval).toArray).run P w = .ok (.value v) w /\ ar c s.o (bn (.raw (.int .i64 wm))) v:=by
  rintro ob sz e n' ho hdm hany rfl;obtain ⟨_,_,h3'⟩:=af h hx;obtain ⟨_,hown⟩:=h3' _ _ _ _ ho hdm;obtain ⟨_,_,_,_,hu,_⟩:=hown rfl;obtain rfl:=ff (h3.symm.trans hk);refine ⟨_, ?_,i9 rfl⟩;simp [builtin,Builtin.len_,hu,run_underlying h2,goInt]
 split at hq <;> try (cases hq;done)
 · rename_i wr sz e n' f ho
   simp only [bo5] at hq;subst hq;exact key _ _ _ _ ho rfl (a0b (h.objs id _ ho)) hp
 rename_i sz e n' ms f ho;simp only [bo5] at hq;subst hq;exact key _ _ _ _ ho rfl (abn (h.objs id _ ho)) hp
def aax (h:aj w0 nt c s a w):∀ {xs:List Operand} {l:List PV},a26 (ev s) xs = some l -> fh c.imm l (xs.map a.eval)
 | [],l,hl=>by simp [a26] at hl;subst hl;trivial
 | x :: xs,l,hl=>by
  simp only [a26] at hl;split at hl <;> try (cases hl;done)
  rename_i y l' hx hr;simp only [bo5] at hl;subst hl;exact ⟨af h hx,aax h hr⟩
def abm (h:aj w0 nt c s a w):∀ {xs:List Operand} {l:List HV},a1w (ev s) xs = some l -> bc c s.o l (xs.map a.eval)
 | [],l,hl=>by simp [a1w] at hl;subst hl;trivial
 | x :: xs,l,hl=>by
  simp only [a1w] at hl;split at hl <;> try (cases hl;done)
  rename_i y l' hx hr;simp only [bo5] at hl;subst hl;exact ⟨af h hx,abm h hr⟩
def a6x {c:Ctx} {o:b4}:∀ {l:List HV} {us:List Value} {ps:List PV},bc c o l us -> mb l = some ps -> fh c.imm ps us
 | [],[],ps,_,h=>by simp [mb] at h;subst h;trivial
 | .p x :: r,u :: us,ps,hr,h=>by
  simp only [mb] at h;split at h <;> try (cases h;done)
  rename_i l hl;simp only [bo5] at h;subst h;exact ⟨hr.1,a6x hr.2 hl⟩
 | .ref _ _ :: _,_,_,_,h=>by simp [mb] at h
 | .ptr _ _ :: _,_,_,_,h=>by simp [mb] at h
 | .eptr _ _ _ _ :: _,_,_,_,h=>by simp [mb] at h
 | .win _ _ _ _ :: _,_,_,_,h=>by simp [mb] at h
 | .clo _ _ _ :: _,_,_,_,h=>by simp [mb] at h
 | .row _ _ _ :: _,_,_,_,h=>by simp [mb] at h
 | .rptr _ _ _ _ _ :: _,_,_,_,h=>by simp [mb] at h
 | .pin _ _ _ _ :: _,_,_,_,h=>by simp [mb] at h
 | [],_ :: _,_,hr,_=>hr.elim
 | .p _ :: _,[],_,hr,_=>hr.elim
def ao9 (h:aj w0 nt c s a w) {fn:Fn} {first caps:Array Operand} (hq:a4m (ev s) fn first.toList caps.toList = some out):
 ∃ v,(Instr.makeFunc fn (first.map a.eval) (caps.map a.eval)).run P w = .ok v w /\ ar c s.o out.val v:=by
 unfold a4m at hq;split at hq <;> try (cases hq;done)
 rotate_left
 · rename_i f x hfirst
   split at hq <;> try (cases hq;done)
   rename_i hs hcaps hx;split at hq <;> try (cases hq;done)
   rename_i l hl;simp only [bo5] at hq;subst hq
   have hf:first = #[x]:=by
    apply Array.ext';simpa using hfirst
   have hc:caps = #[]:=by
    apply Array.ext';simpa using hcaps
   subst hf hc;obtain ⟨us,e1,hr⟩:=af h hx;have hp:=a6x hr hl;refine ⟨.func (.func f) #[.agg us.toArray] #[],by simp [Instr.makeFunc,e1],us,rfl,hp.length,fun i hi=>?_⟩;obtain ⟨u,hu,hrr⟩:=hp.get i l[i] (bo6 hi);exact ⟨u,hu,by simpa [List.getD,bo6 hi] using hrr⟩
 rename_i f hfirst
 have hf:first = #[]:=by
  apply Array.ext';simpa using hfirst
 subst hf;split at hq
 rotate_left
 · split at hq <;> try (cases hq;done)
   rename_i l hl;simp only [bo5] at hq;subst hq;have hr:=abm h hl;refine ⟨.func (.func f) #[] (caps.map a.eval),by simp [Instr.makeFunc],caps.toList.map a.eval,by rw [<- br0,bqr],by rw [hr.length],fun i hi=>?_⟩;obtain ⟨u,hu,hrr⟩:=hr.get i l[i] (bo6 hi);exact ⟨u,hu,by simpa [List.getD,bo6 hi] using hrr⟩
 rename_i l hl;simp only [bo5] at hq;subst hq;have hr:=aax h hl;refine ⟨.func (.func f) #[] (caps.map a.eval),by simp [Instr.makeFunc],caps.toList.map a.eval,by rw [<- br0,bqr],by rw [hr.length],fun i hi=>?_⟩;obtain ⟨u,hu,hrr⟩:=hr.get i l[i] (bo6 hi);exact ⟨u,hu,by simpa [List.getD,bo6 hi] using hrr⟩
def aqr {o:Oper} (ho:o.op = .nilCheck x) (h:aj w0 nt c s a w) (hq:uc s.o (ev s) x = some out) (hp:out.pre):
 ∃ v,(execOp a.eval o).run P w = .ok (.value v) w /\ ar c s.o out.val v:=by
 unfold uc at hq;split at hq <;> try (cases hq;done)
 · rename_i g k cc hx
   simp only [bo5] at hq;subst hq;obtain ⟨cs,e1,h2,h3⟩:=af h hx;refine ⟨_, ?_,cs,e1,h2,h3⟩;unfold execOp;simp [ho,e1]
 · rename_i g k cc hx
   simp only [bo5] at hq;subst hq;obtain ⟨cs,e1,h2,h3⟩:=af h hx;refine ⟨_, ?_,cs,e1,h2,h3⟩;unfold execOp;simp [ho,e1]
 rename_i hh _ _ hx;split at hq <;> try (cases hq;done)
 rename_i p _ _ ht;simp only [bo5] at hq;subst hq;have hu:=af h hx;obtain ⟨ad,e1,_⟩:=za h hu ht hp;refine ⟨_, ?_,hu⟩;unfold execOp;simp [ho,e1]
def a3m (hE : db P E) : ∀ (fs : List Field) (l : List (Nat × Nat)), a0y E (fs.map fun f => (f.offset, f.type, f.name == "_")) = some l ->
 fs.mapM (fun f=>(P.info? f.type).map fun i=>(f.offset,i.size)) = some l
 | [],l,h=>by simp [a0y] at h;subst h;rfl
 | f :: fs,l,h=>by
  simp only [bpt,a0y] at h;split at h <;> try (cases h;done)
  rename_i fi l' hfi hr;simp only [bo5] at h;subst h;obtain ⟨ii,d,h1,h2,h3,h4,_⟩:=b8 (hE _ _ hfi);simp [List.mapM_cons,h1,h4,a3m hE fs l' hr]
def a7j (o:Nat):∀ (vs:List Value) (i:Nat) (cs:List Value),o + i + vs.length <= cs.length ->
 (vs.zipIdx i).foldl (fun (cs:Array Value) (p:Value × Nat)=>cs.setIfInBounds (o + p.2) p.1) cs.toArray = (cs.take (o + i) ++ vs ++ cs.drop (o + i + vs.length)).toArray
 | [],i,cs,_=>by simp
 | v :: vs,i,cs,h=>by
  simp only [List.zipIdx_cons,bq6];have hset:(cs.toArray.setIfInBounds (o + i) v) = (cs.set (o + i) v).toArray:=by simp
  rw [hset,a7j o vs (i + 1) (cs.set (o + i) v) (by simp at h ⊢;omega)];congr 1;have h':o + i + (vs.length + 1) <= cs.length:=by simpa using h
  apply bqw;intro j;simp only [List.getElem?_append,boi,bqg,bob,bov,bpf,bqj,bsm];by_cases h1:j < o + i
  · have e1:j < min (o + (i + 1)) cs.length:=by omega
    have e2:j < min (o + i) cs.length:=by omega
    have e3:j < min (o + (i + 1)) cs.length + vs.length:=by omega
    have e4:j < min (o + i) cs.length + (vs.length + 1):=by omega
    have e5:¬ (o + i = j):=by omega
    have e6:j < o + (i + 1):=by omega
    simp [e1,e2,e3,e4,e5,e6,h1]
  by_cases h2:j = o + i
  · subst h2
    have e1:o + i < min (o + (i + 1)) cs.length:=by omega
    have e2:¬ (o + i < min (o + i) cs.length):=by omega
    have e3:o + i < min (o + (i + 1)) cs.length + vs.length:=by omega
    have e4:o + i < min (o + i) cs.length + (vs.length + 1):=by omega
    have e6:o + i < o + (i + 1):=by omega
    have e7:o + i < cs.length:=by omega
    have e8:o + i - min (o + i) cs.length = 0:=by omega
    simp [e1,e2,e3,e4,e6,e7,e8]
  have e1:¬ (j < min (o + (i + 1)) cs.length):=by omega
  have e2:¬ (j < min (o + i) cs.length):=by omega
  have m1:min (o + (i + 1)) cs.length = o + (i + 1):=by omega
  have m2:min (o + i) cs.length = o + i:=by omega
  rw [m1] at e1;rw [m2] at e2;simp only [m1,m2,e1,e2,if_false];by_cases h3:j < o + (i + 1) + vs.length
  · have h4:j < o + i + (vs.length + 1):=by omega
    have e9:j - (o + i) = (j - (o + (i + 1))) + 1:=by omega
    simp [h3,h4,e9]
  have h4:¬ (j < o + i + (vs.length + 1)):=by omega
  have e9:¬ (o + i = o + (i + 1) + vs.length + (j - (o + (i + 1) + vs.length))):=by omega
  have e10:o + (i + 1) + vs.length + (j - (o + (i + 1) + vs.length)) = o + i + (vs.length + 1) + (j - (o + i + (vs.length + 1))):=by omega
  simp only [h3,h4,if_false];rw [if_neg e9,e10]
def qj {o:b4} {x:HC} {u:Value} (h:gl c o x u):bc c o x.cells u.cells.toList /\ (x.cells.length = u.cells.size):=by
 cases x with
 | one h1 =>
  have hone:=bh.oneCell (c:=c) (o:=o) (h:=h1) h;have:u.cells = #[u]:=by cases u <;> simp_all [Value.cells,Value.oneCell']
  rw [this];exact ⟨⟨h,trivial⟩,rfl⟩
 | agg l =>
  obtain ⟨us,rfl,hl⟩:=h;exact ⟨by simpa [Value.cells,HC.cells] using hl,by simp [Value.cells,HC.cells,hl.length]⟩
def bt3 {p:Prop} (h:p:=by simp;omega):p:=h
def a32 (h:aj w0 nt c s a w) (places:List (Nat × Nat)):∀ (parts:List (Nat × Operand)) (cells:List HV) (us:List Value) (l:List HV),bc c s.o cells us -> jd (ev s) places cells parts = some l ->
 ∃ vs:List Value,Instr.fill (fun i=>places[i]?) us.toArray (parts.map fun p=>(p.1,a.eval p.2)) = some vs.toArray /\ bc c s.o l vs
 | [],cells,us,l,hc,hf=>by
  simp only [jd,bo5] at hf;subst hf;exact ⟨us,by simp [Instr.fill],hc⟩
 | (i,x) :: r,cells,us,l,hc,hf=>by
  simp only [jd] at hf;split at hf <;> try (cases hf;done)
  rename_i off size cc hpl hx;split at hf <;> try (cases hf;done)
  rename_i h1 h2;have h1:=of_decide_eq_true h1;have h2:=of_decide_eq_true h2;have hu:gl c s.o cc (a.eval x):=af h hx;obtain ⟨hcl,hsz⟩:=qj hu;have hlen:=hc.length;have hset:bc c s.o (b9 cells off cc.cells) (us.take off ++ (a.eval x).cells.toList ++ us.drop (off + cc.cells.length)):=((hc.take off).append hcl).append (hc.drop _);obtain ⟨vs,hv,hr⟩:=a32 h places r _ _ l hset hf;refine ⟨vs, ?_,hr⟩;simp only [bpt,Instr.fill,hpl]
  have hb:((a.eval x).cells.size ≠ size || off + (a.eval x).cells.size > us.toArray.size) = false:=by
   simp only [bri,decide_eq_false_iff_not,ne_eq,Decidable.not_not,bpn];omega
  have hb':¬ (decide ((a.eval x).cells.size ≠ size) || decide (off + (a.eval x).cells.size > us.toArray.size)) = true:=by
   rw [brn];exact hb
  rw [if_neg hb'];have hfold:=a7j off (a.eval x).cells.toList 0 us bt3;simp only [bqo,bpv] at hfold
  have hz:(a.eval x).cells.zipIdx.foldl (fun cs (p:Value × Nat)=>cs.setIfInBounds (off + p.2) p.1) us.toArray = ((a.eval x).cells.toList.zipIdx 0).foldl (fun (cs:Array Value) (p:Value × Nat)=>cs.setIfInBounds (off + p.2) p.1) us.toArray:=by
   rw [<- Array.foldl_toList];simp
  rw [hz,hfold];rw [hsz] at hv;exact hv
def ajw (hE:db P E) (h:aj w0 nt c s a w) {parts:Array (Nat × Operand)} (hq:a0d E (ev s) t parts.toList = some out):
 ∃ v,(Instr.build t (parts.map fun (i,x)=>(i,a.eval x))).run P w = .ok v w /\ ar c s.o out.val v:=by
 unfold a0d at hq;split at hq <;> try (cases hq;done)
 rename_i i hi;split at hq <;> try (cases hq;done)
 rename_i fs z hk hz;split at hq <;> try (cases hq;done)
 rename_i places hpl hone;split at hq <;> try (cases hq;done)
 rename_i l hf;simp only [bo5] at hq;subst hq;obtain ⟨ii,d,h1,h2,h3,h4,h5,h6,_⟩:=b8 (hE t i hi);obtain ⟨fa,rfl,hfa⟩:=yc (h3.symm.trans hk);rw [hfa] at hpl;have hplaces:=a3m hE fa.toList places hpl;rw [hz] at h6
 cases hiz:ii.zero with
 | none=>rw [hiz] at h6;cases h6
 | some zv =>
  rw [hiz] at h6;simp only [bp5,bo5] at h6;obtain ⟨vs,hv,hr⟩:=a32 h places parts.toList _ z l (a02 c s.o z (lq hone)) hf;refine ⟨.agg vs.toArray, ?_,vs,rfl,hr⟩;refine run_build w t _ vs.toArray ?_;unfold Program.built;simp only [h1,h2,hiz,hplaces];have hzz:zv.cells = z.toArray:=by rw [h6]
  rw [hzz];simpa using hv
def a10 (w:World) (d:Nat) (t e:TypeId) (ad:Option Addr) (l cp:Nat) (h:P.underlying t = some (.slice e)):(Op.equalIn (d + 1) t (.slice ad l cp) (.slice none 0 0)).run P w = .ok ad.isNone w:=by
 cases ad <;> simp [Op.equalIn,run_underlying h]
def ap3 (w:World) (t e:TypeId) (ad:Option Addr) (l cp:Nat) (h:P.underlying t = some (.slice e)):(binOp .eql t (.slice ad l cp) (.slice none 0 0)).run P w = .ok (.bool ad.isNone) w:=by
 have h1:binOp .eql t (.slice ad l cp) (.slice none 0 0) = (Op.equal t (.slice ad l cp) (.slice none 0 0) >>= fun b=>pure (.bool b)):=by simp only [binOp]
 have h2:(Op.equal t (.slice ad l cp) (.slice none 0 0)).run P w = .ok ad.isNone w:=a10 w 9999 t e ad l cp h;rw [h1,bpb,h2];rfl
def alv (w:World) (t e:TypeId) (ad:Option Addr) (l cp:Nat) (h:P.underlying t = some (.slice e)):(binOp .neq t (.slice ad l cp) (.slice none 0 0)).run P w = .ok (.bool (!ad.isNone)) w:=by
 have h1:binOp .neq t (.slice ad l cp) (.slice none 0 0) = (Op.equal t (.slice ad l cp) (.slice none 0 0) >>= fun b=>pure (.bool (!b))):=by simp only [binOp]
 have h2:(Op.equal t (.slice ad l cp) (.slice none 0 0)).run P w = .ok ad.isNone w:=a10 w 9999 t e ad l cp h;rw [h1,bpb,h2];rfl
def ahj (hE:db P E) (h:aj w0 nt c s a w) {op:BinOp} {y:Operand} (hq:xx E (ev s) op t x y = some out) (hp:out.pre):
 ∃ v,(do eqGuard op t x y (a.eval x) (a.eval y);binOp op t (a.eval x) (a.eval y):Sem Value).run P w = .ok v w /\ ar c s.o out.val v:=by
 unfold xx at hq;split at hq <;> try (cases hq;done)
 split at hq <;> try (cases hq;done)
 rename_i i hi;split at hq <;> try (cases hq;done)
 rename_i el hk;obtain ⟨ii,d,h1,h2,h3,_⟩:=b8 (hE t i hi);obtain rfl:=ff (h3.symm.trans hk);have hg:∀ ad l cp,(eqGuard op t x (.const (.slice none 0 0)) (.slice ad l cp) (.slice none 0 0)).run P w = .ok () w:=by intro ad l cp;cases op <;> simp [eqGuard]
 have core:∀ ad l cp,a.eval x = .slice ad l cp -> a3i op ad = some out -> ∃ v,(do eqGuard op t x (.const (.slice none 0 0)) (a.eval x) (a.eval (.const (.slice none 0 0)));binOp op t (a.eval x) (a.eval (.const (.slice none 0 0))):Sem Value).run P w = .ok v w /\ ar c s.o out.val v:=by
  intro ad l cp he hn;have e2:a.eval (.const (.slice none 0 0)) = .slice none 0 0:=rfl;rw [he,e2,bpb,hg,bow];cases op <;> simp only [a3i] at hn <;> try (cases hn;done)
  · simp only [bo5] at hn;subst hn
    exact ⟨_,ap3 w t el ad l cp h2,i9 rfl⟩
  simp only [bo5] at hn;subst hn;exact ⟨_,alv w t el ad l cp h2,i9 rfl⟩
 split at hq <;> try (cases hq;done)
 · rename_i n sz cl f hx
   obtain ⟨ad,cap,e1,_,_,_,hc⟩:=af h hx
   have hn:0 < n:=by
    cases op <;> simp only [am7] at hq <;> first | (cases hq;done) | (simp only [bo5] at hq;subst hq;exact hp)
   obtain ⟨b,off,rfl,_⟩:=hc hn;refine core _ _ _ e1 ?_;cases op <;> simp only [am7] at hq <;> first | (cases hq;done) | skip
   · simp only [bo5] at hq;subst hq
     have:(0 < n) = True:=by simp [hn]
     simp [a3i,this]
   simp only [bo5] at hq;subst hq;have:(0 < n) = True:=by simp [hn]
   simp [a3i,this]
 rename_i ad l cp hx;obtain ⟨e1,_⟩:=af h hx;exact core ad l cp e1 hq
def ami {o:Oper} {x0 y:Operand} (ho:o.op = .pick x0 x y) (h:aj w0 nt c s a w) (hq:a3x (ev s) x0 x y = some out) (hp:out.pre):
 ∃ v,(execOp a.eval o).run P w = .ok (.value v) w /\ ar c s.o out.val v:=by
 unfold a3x at hq;split at hq <;> try (cases hq;done)
 rename_i b hb;obtain ⟨e1,_⟩:=af h hb;have hrun:(execOp a.eval o).run P w = .ok (.value (if b then a.eval x else a.eval y)) w:=by simp [execOp,ho,e1,asBool]
 refine ⟨_,hrun, ?_⟩;unfold b6t at hq;split at hq
 · rename_i u v hx hy
   simp only [bo5] at hq;subst hq;obtain ⟨e2,_⟩:=af h hx;obtain ⟨e3,_⟩:=af h hy;rw [e2,e3];cases b <;> exact ⟨rfl,rfl⟩
 · rename_i r hx hy
   simp only [bo5] at hq;subst hq;have hp:b = true:=hp;subst hp;exact af h hx
 · rename_i r _ hx hy
   simp only [bo5] at hq;subst hq;have hp:b = true:=hp;subst hp;exact af h hx
 · rename_i r hx hy
   simp only [bo5] at hq;subst hq;have hp:b = false:=hp;subst hp;exact af h hy
 · rename_i r _ _ hx hy
   simp only [bo5] at hq;subst hq;have hp:b = false:=hp;subst hp;exact af h hy
 · rename_i r r' _ _ _ hx hy
   cases b
   · simp only [bo5] at hq
     subst hq;exact af h hy
   simp only [bo5] at hq;subst hq;exact af h hx
 cases hq
def al4 {k:TypeId} {ki:TI} (hE:db P E) (hk:E k = some ki) {kk:KK} (hkk:amx ki.k = some kk):Go.Maps.Keyed P k /\ ∀ m,MK.ok kk m -> ∃ l,keyOf P k m.val = some l:=by
 obtain ⟨ii,d,h1,h2,h3,_⟩:=b8 (hE k ki hk);rw [h3] at hkk;cases d <;> simp only [lj,amx] at hkk <;> try (cases hkk;done)
 · rename_i q
   simp only [bo5] at hkk;subst hkk;refine ⟨Go.Maps.int_keyed h2,fun m hm=>?_⟩
   cases m with
   | i q' n =>
    obtain ⟨rfl,hw⟩:=hm;exact ⟨_,Go.Maps.keyOf_int_mk h2 hw⟩
   | s b=>exact hm.elim
 simp only [bo5] at hkk;subst hkk;refine ⟨Go.Maps.string_keyed h2,fun m hm=>?_⟩
 cases m with
 | i q' n=>exact hm.elim
 | s b=>exact ⟨_,Go.WideMaps.keyOf_string_mk h2 hm⟩
def ah4 (hE:db P E) (h:aj w0 nt c s a w) {ix:Operand} {cm:Bool} (hq':md E s.o (ev s) t x ix cm = some out) (hp:out.pre):
 ∃ v,(Instr.lookup t (a.eval x) (a.eval ix) cm).run P w = .ok v w /\ ar c s.o out.val v:=by
 unfold md at hq';split at hq' <;> try (cases hq';done)
 rename_i i hi;split at hq' <;> try (cases hq';done)
 rename_i kt et hmk;split at hq' <;> try (cases hq';done)
 rename_i kk z hlk;split at hq' <;> try (cases hq';done)
 rename_i kv hix;split at hq' <;> try (cases hq';done)
 rename_i m hm;split at hq' <;> try (cases hq';done)
 rename_i hv hx;unfold aeh at hq';split at hq' <;> try (cases hq';done)
 rename_i id k0;split at hq' <;> try (cases hq';done)
 rename_i kk' n f hob;obtain ⟨ii,d,h1,h2,h3,_⟩:=b8 (hE t i hi)
 have ht:P.underlying t = some (.map kt et):=by
  rw [h2];have h4:=h3.symm.trans hmk;cases d <;> simp [lj] at h4;obtain ⟨rfl,rfl⟩:=h4;rfl
 unfold auk at hlk;split at hlk <;> try (cases hlk;done)
 rename_i ki ei hki hei;split at hlk <;> try (cases hlk;done)
 rename_i kk2 z2 e1 e2 e3;simp only [bo5,bof] at hlk;obtain ⟨rfl,rfl⟩:=hlk;obtain ⟨hz,hz1⟩:=az8 (hE et ei hei) e3 e2 w;obtain ⟨K,hkey⟩:=al4 hE hki e1;obtain ⟨b,es,clock,q1,q2,q3,q4,q5,q6,q7,q8,q9⟩:=h.objs id _ hob;obtain ⟨_,_,g3⟩:=af h hx;obtain ⟨g4,g5⟩:=g3 _ _ _ _ hob rfl;have hu:a.eval x = .map (some b):=by rw [g5 bsq,q1]
 obtain ⟨hu2,_⟩:=af h hix
 have hp':kk' = kk2 /\ MK.ok kk2 m:=by
  cases cm <;> (simp only [bo5] at hq';subst hq';exact hp)
 obtain ⟨rfl,hok⟩:=hp';obtain ⟨l,hl⟩:=hkey m hok;have hmv:=anb hm;rw [hmv] at hl
 have hlook:=b3c cm K ht hz q4 q7 q5 (fun x hx=>by
  obtain ⟨key,y,r1,r2,_⟩:=q8 x hx;rw [r1]
  exact hkey key (q9 key y r2).1) hl
 rw [hu,hu2]
 rcases hlook with ⟨hrun,hno⟩ | ⟨e0,he0,hk0,hrun⟩
 · have hf:f m = none:=by
    cases hfm:f m with
    | none=>rfl
    | some y =>
     obtain ⟨x0,hx0,hxk⟩:=(q9 m y hfm).2;exact absurd (hxk.trans hmv) (hno x0 hx0)
   have hat:a67 f m z2 = me z2:=by unfold a67;rw [hf]
   have hhas:a7k f m = false:=by unfold a7k;rw [hf]
   refine ⟨_,hrun, ?_⟩
   cases cm with
   | true =>
    simp only [bo5] at hq';subst hq';rw [hat,hhas];exact ⟨[z2, .bool false],rfl,uy _ _ hz1,⟨rfl,rfl⟩,trivial⟩
   | false =>
    simp only [bo5] at hq';subst hq';rw [hat];exact uy _ _ hz1
 obtain ⟨key,y,r1,r2,r3⟩:=q8 e0 he0;have hkm:key = m:=MK.val_inj (r1.symm.trans (hk0.trans hmv.symm));subst hkm;have hat:a67 f key z2 = y:=by unfold a67;rw [r2]
 have hhas:a7k f key = true:=by unfold a7k;rw [r2]
 refine ⟨_,hrun, ?_⟩
 cases cm with
 | true =>
  simp only [bo5] at hq';subst hq';rw [hat,hhas];exact ⟨[e0.val, .bool true],rfl,r3,⟨rfl,rfl⟩,trivial⟩
 | false =>
  simp only [bo5] at hq';subst hq';rw [hat];exact r3
def aoj (hE:db P E) {ex:Bool} (h:aj w0 nt c s a w) {o:Oper} (hq':hq E ex s.o (ev s) o.op = some out) (hp:out.pre):
 ∃ v,(execOp a.eval o).run P w = .ok (.value v) w /\ ar c s.o out.val v:=by
 cases ho:o.op <;> rw [ho] at hq' <;> simp only [hq] at hq' <;> try (cases hq';done)
 case move x =>
  cases hx:ev s x with
  | none=>rw [hx] at hq';cases hq'
  | some r =>
   rw [hx] at hq';simp only [bp5,bo5] at hq';subst hq';exact ⟨_,by simp [execOp,ho],af h hx⟩
 case assign x =>
  cases hx:ev s x with
  | none=>rw [hx] at hq';cases hq'
  | some r =>
   rw [hx] at hq';simp only [bp5,bo5] at hq';subst hq';exact ⟨_,by simp [execOp,ho],af h hx⟩
 case pick cc x y=>exact ami ho h hq' hp
 case nilCheck x=>exact aqr ho h hq' hp
 case load t x =>
  obtain ⟨v,h1,h2⟩:=a8l hE h hq' hp;exact ⟨v,by simp [execOp,ho,h1],h2⟩
 case fieldAddr t x k =>
  obtain ⟨v,h1,h2⟩:=aat hE h hq' hp;exact ⟨v,by simp [execOp,ho,h1],h2⟩
 case field t x k =>
  obtain ⟨v,h1,h2⟩:=ak2 hE h hq';exact ⟨v,by simp [execOp,ho,h1],h2⟩
 case indexAddr t x i =>
  obtain ⟨v,h1,h2⟩:=aas hE h hq' hp;exact ⟨v,by simp [execOp,ho,h1],h2⟩
 case lookup t x i cm =>
  obtain ⟨v,h1,h2⟩:=ah4 hE h hq' hp;exact ⟨v,by simp [execOp,ho,h1],h2⟩
 case index t x i =>
  obtain ⟨v,h1,h2⟩:=ak1 hE h hq' hp;exact ⟨v,by simp [execOp,ho,h1],h2⟩
 case binOp op t x y ty =>
  obtain ⟨v,h1,h2⟩:∃ v,(do eqGuard op t x y (a.eval x) (a.eval y);binOp op t (a.eval x) (a.eval y):Sem Value).run P w = .ok v w /\ ar c s.o out.val v:=by
   split at hq'
   · rename_i r hr
     simp only [bo5] at hq';subst hq';exact ahj hE h hr hp
   exact aqn hE h hq' hp
  refine ⟨v, ?_,h2⟩;unfold execOp;simp only [ho];rw [bpb,h1];rfl
 case unOp op t x =>
  obtain ⟨v,h1,h2⟩:=aw0 (P:=P) h hq' hp;exact ⟨v,by simp [execOp,ho,h1],h2⟩
 case convert src dst x =>
  obtain ⟨v,h1,h2⟩:=aml hE h hq' hp;exact ⟨v,by simp [execOp,ho,h1],h2⟩
 case extract x i =>
  obtain ⟨v,h1,h2⟩:=ae5 (P:=P) h hq';exact ⟨v,by simp [execOp,ho,h1],h2⟩
 case slice t x lo hi mx =>
  obtain ⟨v,h1,h2⟩:∃ v,(Instr.sliceAt t (a.eval x) (lo.map a.eval) (hi.map a.eval) (mx.map a.eval)).run P w = .ok v w /\ ar c s.o out.val v:=by
   split at hq'
   · rename_i r hr
     simp only [bo5] at hq';subst hq';exact a6v hE h hr hp
   exact aqz hE h hq' hp
  exact ⟨v,by simp [execOp,ho,h1],h2⟩
 case makeFunc fn first caps =>
  obtain ⟨v,h1,h2⟩:=ao9 (P:=P) h hq';exact ⟨v,by simp [execOp,ho,h1],h2⟩
 case build t parts =>
  obtain ⟨v,h1,h2⟩:=ajw hE h hq';exact ⟨v,by simp [execOp,ho,h1],h2⟩
 case call cl =>
  split at hq' <;> try (cases hq';done)
  rename_i b hb
  have hrun:∀ v,(builtin b cl.argTypes o.type (cl.args.map fun | .const _=>true | _=>false) (cl.args.map a.eval)).run P w = .ok (.value v) w -> (execOp a.eval o).run P w = .ok (.value v) w:=by
   intro v hv;unfold execOp;simp only [ho,resolve,hb,bpb,bq5,bow,invoke];exact hv
  split at hq'
  · rename_i r hr
    simp only [bo5] at hq';subst hq';obtain ⟨v,h1,h2⟩:=ar4 (ty:=o.type) (cs:=cl.args.map fun | .const _=>true | _=>false) hE h hr;exact ⟨v,hrun v (by rw [<- br0,bqr,bqr] at h1;exact h1),h2⟩
  obtain ⟨v,h1,h2⟩:=ahg (ty:=o.type) (cs:=cl.args.map fun | .const _=>true | _=>false) hE h hq' hp;exact ⟨v,hrun v (by rw [<- br0,bqr,bqr] at h1;exact h1),h2⟩
end
end
end
end Go.Hx

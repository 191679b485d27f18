/- A part of the proof: Hx10. -/
import Derived.Laws.IdiomStrings
import Derived.OrdersIn
import Derived.RangeFuncCalls
import Derived.RangeFuncNested
import Derived.Test.YtaegkccfbmekbaaGreatNq09
set_option linter.all false
section
namespace Go.Hx
open Go.RowKit
def ap (P:Program) (f:FuncId) (args:List PC) (res:PR):Prop :=
 ∀ (w:World) (imm:Imm) (us:List Value),ov imm → (∀ b ob,imm b = some ob → w.heap[b]? = some ob) → cr imm args us →
  Calls P f us.toArray w fun e w'=>∃ v imm',e = .returned v ∧ nc imm' res v ∧ (∀ b,b < w.heap.size → imm' b = imm b) ∧ (∀ b ob,imm' b = some ob → w'.heap[b]? = some ob) ∧ Below w.heap.size w w'
def xw (o:b8):HV → Option (Prop × PV × Bool)
 | .p x=>some (True,x,false)
 | .ref id n =>
  match o id with
  | some (.arr _ s _ n' f)=>some (n' = n, .sl n s false f,true)
  | _=>none
 | _=>none
def s8 (o:b8):List HV → Option (Prop × List PV × Bool)
 | []=>some (True,[],false)
 | x :: r =>
  match xw o x,s8 o r with
  | some (p,y,b),some (q,ys,b')=>some (p ∧ q,y :: ys,b || b')
  | _,_=>none
def a1i (o:b8):HV → Option (Prop × PV × Bool)
 | .ptr id off =>
  match o id with
  | some (.box l) =>
   match s8 o (l.drop off) with
   | some (p,ys,_)=>some (p, .vp ys.length fun j=>ys.getD j .any,true)
   | none=>none
  | _=>none
 | h=>xw o h
def uj (o:b8):HC → Option (Prop × PC × Bool)
 | .one h=>match a1i o h with | some (p,y,b)=>some (p, .one y,b) | none=>none
 | .agg l=>match s8 o l with | some (p,ys,b)=>some (p, .agg ys,b) | none=>none
def io (o:b8) (e:Ev):List Operand → Option (Prop × List PC × Bool)
 | []=>some (True,[],false)
 | x :: r =>
  match e x,io o e r with
  | some (.v cc),some (q,ys,b')=>match uj o cc with | some (p,y,b)=>some (p ∧ q,y :: ys,b || b') | none=>none
  | _,_=>none
def oi (caps:Nat → PV):Nat → Nat → List PC
 | 0,_=>[]
 | n + 1,i=>.one (caps i) :: oi caps n (i + 1)
def PV.flat:PV → Bool
 | .raw _=>true
 | .any=>true
 | _=>false
def a95:List PV → Bool
 | []=>true
 | x :: r=>x.flat && a95 r
def PC.flat:PC → Bool
 | .one x=>x.flat
 | .agg l=>a95 l
def a4n:List PC → Bool
 | []=>true
 | x :: r=>x.flat && a4n r
def PR.flat:PR → Bool
 | .v x=>x.flat
 | .tup l=>a4n l
theorem b9.flat {m m':Imm} {x:PV} {u:Value} (hf:x.flat = true) (h:b9 m x u):b9 m' x u:=by
 cases x <;> simp [PV.flat] at hf <;> exact h
theorem ep.flat {m m':Imm}:∀ {xs:List PV} {us:List Value},a95 xs = true → ep m xs us → ep m' xs us
 | [],[],_,_=>trivial
 | _ :: _,_ :: _,hf,h=>by
  simp only [a95,Bool.and_eq_true] at hf
  exact ⟨h.1.flat hf.1,ep.flat hf.2 h.2⟩
 | [],_ :: _,_,h=>h.elim
 | _ :: _,[],_,h=>h.elim
theorem iw.flat {m m':Imm} {x:PC} {u:Value} (hf:x.flat = true) (h:iw m x u):iw m' x u:=by
 cases x with
 | one x=>exact b9.flat hf h
 | agg l=>obtain ⟨us,e,hl⟩:=h;exact ⟨us,e,hl.flat hf⟩
theorem cr.flat {m m':Imm}:∀ {xs:List PC} {us:List Value},a4n xs = true → cr m xs us → cr m' xs us
 | [],[],_,_=>trivial
 | _ :: _,_ :: _,hf,h=>by
  simp only [a4n,Bool.and_eq_true] at hf
  exact ⟨h.1.flat hf.1,cr.flat hf.2 h.2⟩
 | [],_ :: _,_,h=>h.elim
 | _ :: _,[],_,h=>h.elim
theorem nc.flat {m m':Imm} {x:PR} {u:Value} (hf:x.flat = true) (h:nc m x u):nc m' x u:=by
 cases x with
 | v x=>exact iw.flat hf h
 | tup l=>obtain ⟨us,e,hl⟩:=h;exact ⟨us,e,hl.flat hf⟩
def fp (w:World):Imm:=fun b=>w.heap[b]?
section
variable {P:Program} {E:Env} {w0:World} {nt:Nat} {c:Ctx} {s:S} {a:Act} {w:World}
structure uc (w0:World) (c:Ctx) (w:World) (m:Imm):Prop where
 le:Imm.le c.imm m
 new:∀ b,c.frm b = none → b < w.heap.size → m b = w.heap[b]?
theorem s5 (h:al w0 nt c s a w):Imm.le c.imm (fp w):=fun b ob hb=>h.imm b ob hb
theorem ajp (h:al w0 nt c s a w):uc w0 c w (fp w):=⟨s5 h,fun _ _ _=>rfl⟩
theorem a27 {m:Imm} (hm:uc w0 c w m) {b off:Nat} {x:Value} (hb:c.frm b = none) (hc:w.cell? ⟨b,off,none⟩ = some x):j6 m b off = some x:=by
 have hlt:=World.block_lt_of_cell? w _ hc
 unfold World.cell? at hc
 unfold j6
 rw [hm.new b hb hlt]
 dsimp only at hc
 split at hc
 · rename_i cs e fr hb
   rw [hb]
   simpa using hc
 · cases hc
theorem a2d (h:al w0 nt c s a w) {m:Imm} (hm:uc w0 c w m) {x:HV} {u:Value} (hu:bp c s.o x u) {p:Prop} {y:PV} {b:Bool} (hv:xw s.o x = some (p,y,b)) (hp:p) :
 b9 m y u ∧ (b = false → b9 c.imm y u):=by
 unfold xw at hv
 split at hv
 · simp only [Option.some.injEq,Prod.mk.injEq] at hv
   obtain ⟨_,rfl,rfl⟩:=hv
   exact ⟨b9.mono hm.le hu,fun _=>hu⟩
 · rename_i id n
   split at hv <;> try (cases hv;done)
   rename_i wr sz e n' f ho
   simp only [Option.some.injEq,Prod.mk.injEq] at hv
   obtain ⟨rfl,rfl,rfl⟩:=hv
   obtain rfl:n' = n:=hp
   refine ⟨?_,fun hb=>by cases hb⟩
   obtain ⟨_,_,h3⟩:=hu
   have hown:=(h3 _ _ _ _ ho rfl).2 rfl
   obtain ⟨h0,h1,h5⟩:=h.objs id _ ho
   rcases h5 with ⟨h6,xs,h2,h4⟩ | ⟨h6,h7,h8⟩
   · rcases h2.2 with ⟨hv,hz⟩ | ⟨g,cap,cur,hv,hbase,hheap,hcap,hmax,hcs,htake⟩
     · exact ⟨none,0,by rw [hown,hv,hz],by omega,by simp [maxLen],(fun hh=>by cases hh),fun hn=>by omega⟩
     · refine ⟨_,cap,by rw [hown,hv],hcap,hmax,(fun hh=>by cases hh),fun hn=>⟨g,0,rfl,fun i j hi hj=>?_⟩⟩
       obtain ⟨x,hx,hr⟩:=h4 i j hi hj
       have:=h2.cells (g:=g) (by rw [hv];rfl) _ _ hx
       rw [add_lit] at this
       exact ⟨x,a27 hm (h.fsep id _ g ho (by rw [h6,hv];rfl)) this,b9.mono hm.le hr⟩
   · obtain ⟨ad,cap,q1,q2,q3,q4,q5⟩:=b9.mono hm.le h8
     rw [hown]
     exact ⟨ad,cap,q1,q2,q3,(fun hh=>by cases hh),q5⟩
 · cases hv
theorem vo (h:al w0 nt c s a w) {m:Imm} (hm:uc w0 c w m):∀ {xs:List HV} {us:List Value} (_:bq c s.o xs us) {p:Prop} {ys:List PV} {b:Bool} (_:s8 s.o xs = some (p,ys,b)) (_:p),
 ep m ys us ∧ (b = false → ep c.imm ys us)
 | [],[],_,p,ys,b,hv,_=>by
  simp only [s8,Option.some.injEq,Prod.mk.injEq] at hv
  obtain ⟨_,rfl,_⟩:=hv
  exact ⟨trivial,fun _=>trivial⟩
 | x :: xs,u :: us,hu,p,ys,b,hv,hp=>by
  simp only [s8] at hv
  split at hv <;> try (cases hv;done)
  rename_i p1 y1 b1 p2 ys2 b2 h1 h2
  simp only [Option.some.injEq,Prod.mk.injEq] at hv
  obtain ⟨rfl,rfl,rfl⟩:=hv
  obtain ⟨q1,q2⟩:=a2d h hm hu.1 h1 hp.1
  obtain ⟨q3,q4⟩:=vo h hm hu.2 h2 hp.2
  exact ⟨⟨q1,q3⟩,fun hb=>by
   rw [Bool.or_eq_false_iff] at hb
   exact ⟨q2 hb.1,q4 hb.2⟩⟩
 | [],_ :: _,hu,_,_,_,_,_=>hu.elim
 | _ :: _,[],hu,_,_,_,_,_=>hu.elim
theorem ack (h:al w0 nt c s a w) {m:Imm} (hm:uc w0 c w m) {x:HV} {u:Value} (hu:bp c s.o x u) {p:Prop} {y:PV} {b:Bool} (hv:a1i s.o x = some (p,y,b)) (hp:p) :
 b9 m y u ∧ (b = false → b9 c.imm y u):=by
 unfold a1i at hv
 split at hv
 · rename_i id off
   split at hv <;> try (cases hv;done)
   rename_i l hl
   split at hv <;> try (cases hv;done)
   rename_i q ys bb hvl
   simp only [Option.some.injEq,Prod.mk.injEq] at hv
   obtain ⟨rfl,rfl,rfl⟩:=hv
   refine ⟨?_,fun hb=>by cases hb⟩
   obtain ⟨_,_,h3⟩:=hu
   obtain ⟨bk,hb,rfl⟩:=h3 l hl
   obtain ⟨b',C,e,h1,hblk,h2,h4,h5⟩:=h.objs id _ hl
   rw [hb] at h1
   simp only [Value.pointer.injEq,Option.some.injEq,Addr.mk.injEq,and_true] at h1
   subst h1
   obtain ⟨q1,_⟩:=vo h hm (h5.drop off) hvl hp
   refine ⟨bk,off,rfl,fun j hj=>?_⟩
   obtain ⟨v,hv,hr⟩:=q1.get j ys[j] (List.getElem?_eq_getElem hj)
   refine ⟨v,a27 hm (h.fsep id _ bk hl (by rw [hblk];rfl)) ?_,by simpa [List.getD,List.getElem?_eq_getElem hj] using hr⟩
   rw [cell_of_row w bk (off + j) C e (0,0) h4]
   rw [List.getElem?_drop] at hv
   simpa using hv
 · exact a2d h hm hu hv hp
theorem a29 (h:al w0 nt c s a w) {m:Imm} (hm:uc w0 c w m) {x:HC} {u:Value} (hu:fb c s.o x u) {p:Prop} {y:PC} {b:Bool} (hv:uj s.o x = some (p,y,b)) (hp:p) :
 iw m y u ∧ (b = false → iw c.imm y u):=by
 unfold uj at hv
 split at hv
 · split at hv <;> try (cases hv;done)
   rename_i hvp
   simp only [Option.some.injEq,Prod.mk.injEq] at hv
   obtain ⟨rfl,rfl,rfl⟩:=hv
   exact ack h hm hu hvp hp
 · split at hv <;> try (cases hv;done)
   rename_i hvl
   simp only [Option.some.injEq,Prod.mk.injEq] at hv
   obtain ⟨rfl,rfl,rfl⟩:=hv
   obtain ⟨us,rfl,hl⟩:=hu
   obtain ⟨q1,q2⟩:=vo h hm hl hvl hp
   exact ⟨⟨us,rfl,q1⟩,fun hb=>⟨us,rfl,q2 hb⟩⟩
theorem wz (h:al w0 nt c s a w) {m:Imm} (hm:uc w0 c w m):∀ {xs:List Operand} {p:Prop} {ys:List PC} {b:Bool} (_:io s.o (ev s) xs = some (p,ys,b)) (_:p),
 cr m ys (xs.map a.eval) ∧ (b = false → cr c.imm ys (xs.map a.eval))
 | [],p,ys,b,hv,_=>by
  simp only [io,Option.some.injEq,Prod.mk.injEq] at hv
  obtain ⟨_,rfl,_⟩:=hv
  exact ⟨trivial,fun _=>trivial⟩
 | x :: xs,p,ys,b,hv,hp=>by
  simp only [io] at hv
  split at hv <;> try (cases hv;done)
  rename_i cc q ys2 b2 hx h2
  split at hv <;> try (cases hv;done)
  rename_i p1 y1 b1 h1
  simp only [Option.some.injEq,Prod.mk.injEq] at hv
  obtain ⟨rfl,rfl,rfl⟩:=hv
  obtain ⟨q1,q2⟩:=a29 h hm (ai h hx) h1 hp.1
  obtain ⟨q3,q4⟩:=wz h hm h2 hp.2
  exact ⟨⟨q1,q3⟩,fun hb=>by
   rw [Bool.or_eq_false_iff] at hb
   exact ⟨q2 hb.1,q4 hb.2⟩⟩
theorem tc {m:Imm} {caps:Nat → PV}:∀ (n i:Nat) (cs:List Value),cs.length = i + n → (∀ j,j < i + n → ∃ x,cs[j]? = some x ∧ b9 m (caps j) x) → cr m (oi caps n i) (cs.drop i)
 | 0,i,cs,hl,_=>by
  rw [List.drop_eq_nil_of_le (by omega)]
  trivial
 | n + 1,i,cs,hl,h=>by
  rw [List.drop_eq_getElem_cons (by omega)]
  obtain ⟨x,hx,hr⟩:=h i (by omega)
  rw [List.getElem?_eq_getElem (by omega)] at hx
  simp only [Option.some.injEq] at hx
  subst hx
  exact ⟨hr,tc n (i + 1) cs (by omega) fun j hj=>h j (by omega)⟩
theorem cr.append {m:Imm}:∀ {xs ys:List PC} {us vs:List Value},cr m xs us → cr m ys vs → cr m (xs ++ ys) (us ++ vs)
 | [],_,[],_,_,h=>h
 | _ :: _,_,_ :: _,_,h,k=>⟨h.1,cr.append h.2 k⟩
 | [],_,_ :: _,_,h,_=>h.elim
 | _ :: _,_,[],_,h,_=>h.elim
end
def HC.ids:HC → List Nat
 | .one h=>h.ids
 | .agg l=>gi l
def y7:List HC → List Nat
 | []=>[]
 | x :: r=>x.ids ++ y7 r
def HR.ids:HR → List Nat
 | .v x=>x.ids
 | .tup l=>y7 l
def ag.ids:ag → List Nat
 | .mp ..=>[]
 | .bld ..=>[]
 | .ex ..=>[]
 | .bun _=>[]
 | .opq ..=>[]
 | .box l=>gi l
 | .arr ..=>[]
 | .arrh _ _ _ ms _=>ms
 | .nest _ _ _ _ _ _ (some p)=>[p.1]
 | .nest _ _ _ _ _ _ none=>[]
theorem HC.men_ids {x:HC} {k:Nat} (h:x.men k):k ∈ x.ids:=by
 cases x with
 | one h'=>exact HV.men_ids h
 | agg l=>exact kg h
theorem a80:∀ {l:List HC} {k:Nat},(∃ h ∈ l,h.men k) → k ∈ y7 l
 | [],_,⟨_,h,_⟩=>by cases h
 | x :: r,k,⟨h,hm,hk⟩=>by
  rcases List.mem_cons.1 hm with rfl | hm
  · exact List.mem_append_left _ (HC.men_ids hk)
  · exact List.mem_append_right _ (a80 ⟨h,hm,hk⟩)
theorem HR.men_ids {x:HR} {k:Nat} (h:x.men k):k ∈ x.ids:=by
 cases x with
 | v x=>exact HC.men_ids h
 | tup l=>exact a80 h
theorem ag.men_ids {x:ag} {k:Nat} (h:x.men k):k ∈ x.ids:=by
 cases x with
 | mp kk n f=>exact h.elim
 | bld fr T e l=>exact h.elim
 | ex d v b x=>exact h.elim
 | bun B=>exact h.elim
 | opq s e n R=>exact h.elim
 | box l=>exact kg h
 | arr wr s e n f=>exact h.elim
 | arrh s e n ms f=>exact h
 | nest e et es n m g pd=>cases pd with | none=>exact h.elim | some p=>exact List.mem_singleton.2 h
def d7 (e:Ev):List Operand → List Nat
 | []=>[]
 | x :: r=>(match e x with | some v=>v.ids | none=>[]) ++ d7 e r
structure Ann where
 id:Nat
 wb:Bool
 ex:Bool
 res:PR
 W:List Nat
 N:List Nat
 M:List Nat
def bh (ops:Array Oper) (s:S) (o:Oper):Option Bool :=
 match o.guard with
 | none=>some true
 | some (j,want) =>
  match (ops[j]?).bind (·.dst) with
  | some d=>match s.t d with | some (.v (.one (.p (.raw (.bool b)))))=>some (b == want) | some (.tup [])=>some false | _=>none
  | none=>none
def d8 (nt:Nat):Option Tmp → Bool
 | none=>true
 | some d=>decide (d < nt)
def pvN (f:Nat → PV):Nat → Nat → List PV
 | 0,_=>[]
 | n + 1,i=>f i :: pvN f n (i + 1)
theorem a7x {m:Imm} {f:Nat → PV}:∀ (n i:Nat) (cs:List Value),cs.length = i + n → (∀ j,j < i + n → ∃ x,cs[j]? = some x ∧ b9 m (f j) x) → ep m (pvN f n i) (cs.drop i)
 | 0,i,cs,hl,_=>by
  rw [List.drop_eq_nil_of_le (by omega)]
  trivial
 | n + 1,i,cs,hl,h=>by
  obtain ⟨x,hx,hr⟩:=h i (by omega)
  have hlt:i < cs.length:=by omega
  rw [List.drop_eq_getElem_cons hlt]
  rw [List.getElem?_eq_getElem hlt] at hx
  simp only [Option.some.injEq] at hx
  rw [hx]
  exact ⟨hr,a7x n (i + 1) cs (by omega) fun j hj=>h j (by omega)⟩
def callee (e:Ev) (cl:Call):Option (FuncId × List PC × List PC) :=
 match cl.callee with
 | .value f =>
  match e f with
  | some (.v (.one (.p (.fn g k caps))))=>some (g,[],oi caps k 0)
  | some (.v (.one (.p (.bnd g m fr))))=>some (g,[.agg (pvN fr m 0)],[])
  | _=>none
 | _=>none
def a5v (caps:Nat → HV):Nat → Nat → List HC
 | 0,_=>[]
 | n + 1,i=>.one (caps i) :: a5v caps n (i + 1)
def sq (e:Ev) (cl:Call):Option (FuncId × List HC) :=
 match cl.callee with
 | .value f =>
  match e f with
  | some (.v (.one (.p (.fn g k caps))))=>some (g,(oi caps k 0).map PC.toH)
  | some (.v (.one (.clo g k caps)))=>some (g,a5v caps k 0)
  | _=>none
 | _=>none
def aj (P : Program) (f : FuncId) : Prop := ∃ fn, P.funcs[f]? = some fn ∧ (fn.name == "runtime.NumGoroutine") = false ∧ fn.body.isNone = false
theorem S.setW_one (s:S) (id:Nat) (ob:ag):s.setW [(id,some ob)] = s.setO id (some ob):=by
 unfold S.setW S.setO
 simp only [S.mk.injEq,true_and]
 funext k
 by_cases hk:k = id
 · subst hk;simp [gd]
 · have:Nat.beq id k = false:=by
    rw [Bool.eq_false_iff]
    exact fun hb=>hk (Nat.eq_of_beq_eq_true hb).symm
   simp [gd,this,hk]
theorem S.setW_none (s:S) (id:Nat):s.setW [(id,none)] = s.setO id none:=by
 unfold S.setW S.setO
 simp only [S.mk.injEq,true_and]
 funext k
 by_cases hk:k = id
 · subst hk;simp [gd]
 · have:Nat.beq id k = false:=by
    rw [Bool.eq_false_iff]
    exact fun hb=>hk (Nat.eq_of_beq_eq_true hb).symm
   simp [gd,this,hk]
def o7 (e:Ev):List Operand → Option (List HC)
 | []=>some []
 | x :: r =>
  match e x,o7 e r with
  | some (.v cc),some l=>some (cc :: l)
  | _,_=>none
def a7f:List (Nat × ag) → List Nat
 | []=>[]
 | (_,x) :: r=>x.ids ++ a7f r
theorem aba (w:World) (o:Obj) {k:Nat} (h:k < w.heap.size):(w.drew.alloc o).heap[k]? = w.heap[k]?:=by
 show (w.heap.push o)[k]? = w.heap[k]?
 rw [Array.getElem?_push_lt h,Array.getElem?_eq_getElem h]
def aek (b:ByteArray):Nat → Nat → PV:=fun i _=>.raw (.int .u8 (cu b i))
def a4k (E:Env) (e:Ev) (sr ds:TypeId) (x:Operand):Option ByteArray :=
 match E sr,E ds,e x with
 | some ti,some td,some (.v (.one (.p (.raw (.string b))))) =>
  match ti.k,td.k with
  | .string, .slice el =>
   match E el with
   | some ei=>match ei.k with | .int .u8=>some b | _=>none
   | none=>none
  | _,_=>none
 | _,_,_=>none
inductive Eff (P:Program) (E:Env) (nt:Nat) (ops:Array Oper) (o:Oper) (an:Ann) (s:S):Option HR → Wr → Prop where
 | cut (out:Out) (id:Nat) (hw:bh ops s o = some true) (hd:d8 nt o.dst = true) (hq':sh E s.o (ev s) o.op = some (out,id)) (hp:out.pre) (hW:an.W = [id]):Eff P E nt ops o an s (some out.val) [(id,none)]
 | skip (hw:bh ops s o = some false) (hd:d8 nt o.dst = true):Eff P E nt ops o an s (some (.tup [])) []
 | quiet (out:Out) (hw:bh ops s o = some true) (hd:d8 nt o.dst = true) (hq':hq E an.ex s.o (ev s) o.op = some out) (hp:out.pre) (hM:out.val.ids = an.M):Eff P E nt ops o an s (some out.val) []
 | make (nw:New) (hw:bh ops s o = some true) (hd:d8 nt o.dst = true) (hq':ha E (ev s) an.id o.op = some nw) (hp:nw.pre) (hm:NM s an.id) (hn:s.o an.id = none)
  (hW:an.W = [an.id]) (hN:an.N = [an.id]) (hM:nw.val.ids ++ nw.ob.ids = an.M):Eff P E nt ops o an s (some nw.val) [(an.id,some nw.ob)]
 | store (u:Upd) (hw:bh ops s o = some true) (hd:d8 nt o.dst = true) (hq':hs E s.o (ev s) o.op = some u) (hp:u.pre) (hW:an.W = [u.id]) (hM:∀ k ∈ u.ob.ids,k ∈ an.M):Eff P E nt ops o an s none [(u.id,some u.ob)]
 | app (u:App) (hw:bh ops s o = some true) (hd:d8 nt o.dst = true) (hq':hap E s.o (ev s) an.id an.wb o.op = some u) (hp:u.pre) (hn:u.new = true → NM s an.id ∧ s.o an.id = none)
  (hW:an.W = [u.id]) (hN:u.new = true → an.N = [an.id]) (hM:u.val.ids ++ u.ob.ids = an.M):Eff P E nt ops o an s (some u.val) [(u.id,some u.ob)]
 | call (cl:Call) (f:FuncId) (fst caps args:List PC) (p:Prop) (vs:List PC) (b:Bool) (hw:bh ops s o = some true) (hd:d8 nt o.dst = true) (ho:o.op = .call cl) (hc:callee (ev s) cl = some (f,fst,caps)) (hf:aj P f)
  (hv:io s.o (ev s) cl.args.toList = some (p,vs,b)) (hp:p) (hco:CoL (fst ++ (vs ++ caps)) args) (hpure:ap P f args an.res) (hb:(!b || an.res.flat) = true) (hM:an.M = []):Eff P E nt ops o an s (some an.res.toH) []
 | conv (sr ds:TypeId) (x:Operand) (b:ByteArray) (hw:bh ops s o = some true) (hd:d8 nt o.dst = true) (ho:o.op = .convert sr ds x) (hcv:a4k E (ev s) sr ds x = some b) (hp:b.size ≤ maxLen) (hM:an.M = []) :
  Eff P E nt ops o an s (some (.v (.one (.p (.sl b.size 1 false (aek b)))))) []
 | fcall (cl:Call) (f:FuncId) (caps:List HC) (args hcs:List HC) (o1 o2:List (Nat × ag)) (res:HR) (fx:List Nat) (hw:bh ops s o = some true) (hd:d8 nt o.dst = true) (ho:o.op = .call cl) (hc:sq (ev s) cl = some (f,caps)) (hf:aj P f)
  (hv:o7 (ev s) cl.args.toList = some hcs) (hco:bs (hcs ++ caps) args) (hfun:ce P f args o1 res o2 fx) (hsub:∀ id ob,lk o1 id = some ob → ∃ ob',s.o id = some ob' ∧ CoO ob' ob)
  (hnew:∀ id ∈ dh o2,id ∉ dh o1 → s.o id = none) (hnm:∀ id ∈ dh o2,id ∉ fx ∨ id ∉ dh o1 → NMx s (dh o1 ++ dh o2) id) (hcl:∀ id ob,lk o2 id = some ob → ∀ k,ob.men k → k ∈ dh o2) (hclr:∀ k,res.men k → k ∈ dh o2)
  (hW:an.W = dh o1 ++ dh o2) (hN:∀ id ∈ dh o2,id ∉ fx ∨ id ∉ dh o1 → id ∈ an.N) (hM:an.M = res.ids ++ a7f o2):Eff P E nt ops o an s (some res) (yk o1 o2)
theorem abv:∀ (l:List PV),gi (l.map .p) = []
 | []=>rfl
 | _ :: r=>by simp [gi,HV.ids,abv r]
theorem a65:∀ (l:List PC),y7 (l.map PC.toH) = []
 | []=>rfl
 | .one _ :: r=>by simp [y7,HC.ids,PC.toH,HV.ids,a65 r]
 | .agg l :: r=>by simp [y7,HC.ids,PC.toH,abv l,a65 r]
theorem PR.ids_toH (x:PR):x.toH.ids = []:=by
 cases x with
 | v x=>cases x <;> simp [PR.toH,HR.ids,PC.toH,HC.ids,HV.ids,abv]
 | tup l=>simp [PR.toH,HR.ids,a65]
def S.after (s:S) (d:Option Tmp) (x:Option HR) (wr:Wr):S:=(s.setW wr).putD d x
def rf (ro:Option Nat):Fence:={ fn:=fun _=>True,depth:=none,alive:=false,round:=ro }
theorem aep {P:Program} {ro:Option Nat} {n:Nat} {f:FuncId} {args:Array Value} {w:World} {R:Ending → World → Prop} (h:Calls P f args w R):CallsIn (rf ro) n P f args w R:=(callsIn_wide (n:=n)).2 h
theorem agi {P:Program} {ro:Option Nat} {n:Nat} {row:String} {args:Array Value} {w:World} {R:Value → World → Prop} (h:Rows P row args w R):RowsIn (rf ro) n P row args w R:=fun c cs _=>by
 obtain ⟨v,w',r,s⟩:=h c cs
 exact ⟨v,w',r,stepsIn_wide.2 s⟩
theorem vv {P:Program} {ro:Option Nat} {n:Nat} {o:Oper} {a:Act} {w:World} {K:Act → World → Prop} {Q:Exit → Act → World → Prop} (hnd:∀ c,o.op ≠ .defer c) (h:o.wp P a w K Q):o.wpIn (rf ro) n P a w K Q:=by
 refine ⟨fun _ _=>trivial, ?_⟩
 rw [Oper.semAt_eq _ _ _ hnd]
 unfold Oper.wp at h
 generalize (execOp a.eval o).run P w = r at *
 cases r with
 | ok x w' =>
  cases x <;> simp only [Oper.upon,Oper.uponIn] at h ⊢ <;>
   first
    | exact h
    | exact ⟨(fun hh=>absurd hh (by simp [rf])),aep h⟩
    | exact ⟨(fun hh=>absurd hh (by simp [rf])),agi h⟩
    | exact h.elim
 | halt x w'=>cases x <;> simp only [Oper.upon,Oper.uponIn] at h ⊢ <;> first | exact h | exact h.elim
def afh (P:Program) (ops:Array Oper) (Q:Exit → Act → World → Prop) (i:Nat) (K:Act → World → Prop) (a:Act) (w:World):Prop :=
 match ops[i]? with
 | none=>K a w
 | some o=>if Region.wanted o (yielded ops a.tmps) then o.wp P a w K Q else K (a.put o.dst undef) w
theorem Eff.nd {P:Program} {E:Env} {nt:Nat} {ops:Array Oper} {o:Oper} {an:Ann} {s:S} {x:Option HR} {wr:Wr} (he:Eff P E nt ops o an s x wr):bh ops s o = some false ∨ ∀ c,o.op ≠ .defer c:=by
 cases he with
 | skip hw hd=>exact .inl hw
 | cut out id hw hd hq' hp hW=>exact .inr fun c hc=>by rw [hc] at hq';cases hq'
 | quiet out hw hd hq' hp hM=>exact .inr fun c hc=>by rw [hc] at hq';cases hq'
 | make nw hw hd hq' hp hm hn hW hN hM=>exact .inr fun c hc=>by rw [hc] at hq';cases hq'
 | store u hw hd hq' hp hW hM=>exact .inr fun c hc=>by rw [hc] at hq';cases hq'
 | app u hw hd hq' hp hn hW hN hM=>exact .inr fun c hc=>by rw [hc] at hq';cases hq'
 | call cl f fst caps args p vs b hw hd ho hc hf hv hp hco hpure hb hM=>exact .inr fun c hc=>by rw [hc] at ho;cases ho
 | conv sr ds x b hw hd ho hcv hp hM=>exact .inr fun c hc=>by rw [hc] at ho;cases ho
 | fcall cl f caps args hcs o1 o2 res fx hw hd ho hc hf hv hco hfun hsub hnew hnm hcl hclr hW hN hM=>exact .inr fun c hc=>by rw [hc] at ho;cases ho
section
variable {P:Program} {E:Env} {w0:World} {m0:Old} {nt:Nat} {s:S} {a:Act} {w:World} {ops:Array Oper} {o:Oper} {an:Ann}
theorem gn (h:d8 nt o.dst = true):∀ k,o.dst = some k → k < nt:=by
 intro k hk
 rw [hk] at h
 exact of_decide_eq_true h
theorem en {c:Ctx} (h:al w0 nt c s a w) {b:Bool} (hw:bh ops s o = some b):Region.wanted o (yielded ops a.tmps) = b:=by
 unfold bh at hw
 unfold Region.wanted
 split at hw
 · rename_i hg
   simp only [Option.some.injEq] at hw
   rw [hg,hw]
 · rename_i j want hg
   rw [hg]
   split at hw <;> try (cases hw;done)
   rename_i d hd
   split at hw <;> try (cases hw;done)
   rotate_left
   · rename_i hb
     simp only [Option.some.injEq] at hw
     obtain ⟨us,e1,e2⟩:=h.tmps d _ hb
     have e3:us = []:=by cases us with | nil=>rfl | cons=>exact e2.elim
     subst e3
     show (yielded ops a.tmps j == some want) = b
     have hy:yielded ops a.tmps j = none:=by
      unfold yielded
      rw [hd]
      simp only [Option.bind_some]
      rcases Nat.lt_or_ge d a.tmps.size with h' | h'
      · have:a.tmps[d]? = some (.tuple #[]):=by
         rw [Array.getElem?_eq_getElem h',← e1]
         simp [h']
        simp [this]
      · simp [Array.getElem?_eq_none h']
     rw [hy,← hw]
     rfl
   rename_i bb hb
   simp only [Option.some.injEq] at hw
   obtain ⟨e1,_⟩:=h.tmps d _ hb
   have hsz:d < a.tmps.size:=by
    rcases Nat.lt_or_ge d a.tmps.size with h' | h'
    · exact h'
    · have:a.tmps.getD d undef = undef:=by simp [Array.getElem?_eq_none h']
      rw [this] at e1
      cases e1
   have:a.tmps[d]? = some (.bool bb):=by
    rw [Array.getElem?_eq_getElem hsz]
    rw [← e1]
    simp [hsz]
   have hy:yielded ops a.tmps j = some bb:=by
    unfold yielded
    rw [hd]
    simp [this]
   show (yielded ops a.tmps j == some want) = b
   rw [hy,← hw]
   cases bb <;> cases want <;> rfl
theorem bz.append {c:Ctx} {o:b8}:∀ {xs ys:List HC} {us vs:List Value},bz c o xs us → bz c o ys vs → bz c o (xs ++ ys) (us ++ vs)
 | [],_,[],_,_,h=>h
 | _ :: _,_,_ :: _,_,h,k=>⟨h.1,bz.append h.2 k⟩
 | [],_,_ :: _,_,h,_=>h.elim
 | _ :: _,_,[],_,h,_=>h.elim
theorem z8 {c:Ctx} {o:b8} {caps:Nat → HV}:∀ (n i:Nat) (cs:List Value),cs.length = i + n → (∀ j,j < i + n → ∃ x,cs[j]? = some x ∧ bp c o (caps j) x) → bz c o (a5v caps n i) (cs.drop i)
 | 0,i,cs,hl,_=>by
  rw [List.drop_eq_nil_of_le (by omega)]
  trivial
 | n + 1,i,cs,hl,h=>by
  rw [List.drop_eq_getElem_cons (by omega)]
  obtain ⟨x,hx,hr⟩:=h i (by omega)
  rw [List.getElem?_eq_getElem (by omega)] at hx
  simp only [Option.some.injEq] at hx
  subst hx
  exact ⟨hr,z8 n (i + 1) cs (by omega) fun j hj=>h j (by omega)⟩
theorem a2e {c:Ctx} (h:al w0 nt c s a w):∀ {l:List Operand} {hcs:List HC},o7 (ev s) l = some hcs → bz c s.o hcs (l.map a.eval)
 | [],hcs,hv=>by
  simp only [o7,Option.some.injEq] at hv
  subst hv
  trivial
 | x :: r,hcs,hv=>by
  simp only [o7] at hv
  split at hv <;> try (cases hv;done)
  rename_i cc l e1 e2
  simp only [Option.some.injEq] at hv
  subst hv
  exact ⟨ai h e1,a2e h e2⟩
theorem afe (hE:cq P E) {x:Option HR} {wr:Wr} (he:Eff P E nt ops o an s x wr) (h:Rel w0 m0 nt s a w) {i:Nat} (hi:ops[i]? = some o) {K:Act → World → Prop} {Q:Exit → Act → World → Prop}
 (hK:∀ a' w',Rel w0 m0 nt (s.after o.dst x wr) a' w' → K a' w'):afh P ops Q i K a w:=by
 obtain ⟨c,hold,h⟩:=h
 unfold afh
 simp only [hi]
 cases he with
 | cut out id hw hd hq' hp hW =>
  rw [if_pos (en h hw)]
  obtain ⟨v,c',h1,hold',h2,h3⟩:=aco hE h hq' hp
  unfold Oper.wp
  rw [h1]
  refine hK _ _ ⟨c',hold'.trans hold, ?_⟩
  have e:s.after o.dst (some out.val) [(id,none)] = (s.setO id none).putD o.dst (some out.val):=by
   unfold S.after
   rw [S.setW_none]
  rw [e]
  exact h2.putD o.dst (gn hd) (some out.val) v (fun y hy=>by
   simp only [Option.some.injEq] at hy
   subst hy
   exact h3)
 | skip hw hd =>
  rw [if_neg (by rw [en h hw];simp)]
  exact hK _ _ ⟨c,hold,h.putD o.dst (gn hd) (some (.tup [])) undef (fun y hy=>by cases hy;exact ⟨[],rfl,trivial⟩)⟩
 | quiet out hw hd hq' hp hM =>
  rw [if_pos (en h hw)]
  obtain ⟨v,h1,h2⟩:=ajr hE h hq' hp
  unfold Oper.wp
  rw [h1]
  exact hK _ _ ⟨c,hold,h.putD o.dst (gn hd) (some out.val) v (fun y hy=>by
   simp only [Option.some.injEq] at hy
   subst hy
   exact h2)⟩
 | make nw hw hd hq' hp hm hn hW hN hM =>
  rw [if_pos (en h hw)]
  obtain ⟨v,w',c',h1,ho',h2,h3⟩:=al6 hE h hq' hp hm hn
  have hold':=ho'.trans hold
  unfold Oper.wp
  rw [h1]
  exact hK _ _ ⟨c',hold',(by unfold S.after;rw [S.setW_one];exact h2.putD o.dst (gn hd) (some nw.val) v (fun y hy=>by
   simp only [Option.some.injEq] at hy
   subst hy
   exact h3))⟩
 | store u hw hd hq' hp hW hM =>
  rw [if_pos (en h hw)]
  obtain ⟨w',c',h1,ho',h2⟩:=ak0 hE h hq' hp
  have hold':=ho'.trans hold
  unfold Oper.wp
  rw [h1]
  exact hK _ _ ⟨c',hold',(by unfold S.after;rw [S.setW_one];exact h2.putD o.dst (gn hd) none undef (fun y hy=>by cases hy))⟩
 | app u hw hd hq' hp hn hW hN hM =>
  rw [if_pos (en h hw)]
  obtain ⟨v,w',c',h1,⟨ho',h2⟩,h3⟩:=agq hE h hq' hp hn
  have hold':=ho'.trans hold
  unfold Oper.wp
  rw [h1]
  exact hK _ _ ⟨c',hold',(by unfold S.after;rw [S.setW_one];exact h2.putD o.dst (gn hd) (some u.val) v (fun y hy=>by
   simp only [Option.some.injEq] at hy
   subst hy
   exact h3))⟩
 | conv sr ds x b hw hd ho hcv hp hM =>
  rw [if_pos (en h hw)]
  unfold a4k at hcv
  split at hcv <;> try (cases hcv;done)
  rename_i ti td b' e1 e2 e3
  split at hcv <;> try (cases hcv;done)
  rename_i el e4 e5
  split at hcv <;> try (cases hcv;done)
  rename_i ei e6
  split at hcv <;> try (cases hcv;done)
  rename_i e7
  simp only [Option.some.injEq] at hcv
  subst hcv
  obtain ⟨_,d1,_,p1,q1,_⟩:=bc (hE sr ti e1)
  obtain ⟨_,d2,_,p2,q2,_⟩:=bc (hE ds td e2)
  obtain ⟨_,d3,_,p3,q3,_⟩:=bc (hE el ei e6)
  have r1:d1 = .string:=by rw [e4] at q1;cases d1 <;> simp [fl] at q1 ⊢
  have r2:d2 = .slice el:=dz (q2.symm.trans e5)
  have r3:d3 = .int .u8:=by
   rw [e7] at q3
   cases d3 <;> simp [fl] at q3 ⊢
   exact q3.symm
  subst r1 r2 r3
  have hev:a.eval x = .string b':=(ai h e3).1
  have hrun:=run_bytes_of_string (P:=P) w sr ds el b' p1 p2 p3
  have hex:(execOp a.eval o).run P w = .ok (.value (.slice (some ⟨w.heap.size,0,none⟩) b'.size (grownCap w b'.size 0 el)))
   (w.drew.alloc (.cells (bytesRow b' (grownCap w b'.size 0 el)) el ((bytesRow b' (grownCap w b'.size 0 el)).size,(bytesRow b' (grownCap w b'.size 0 el)).size + 1))):=by
   unfold execOp
   simp only [ho,hev,Sem.run_bind,hrun,Result.andThen_ok,Sem.run_pure]
  unfold Oper.wp
  rw [hex]
  generalize hob:Obj.cells (bytesRow b' (grownCap w b'.size 0 el)) el ((bytesRow b' (grownCap w b'.size 0 el)).size,(bytesRow b' (grownCap w b'.size 0 el)).size + 1) = ob
  have h':=h.later (w.drew.alloc ob) ⟨rfl,rfl,rfl,by simp,fun k hk=>aba w _ hk,Nat.le_succ _⟩ (fun k=>if k = w.heap.size then some ob else c.imm k) (fun k hk=>if_neg (by omega)) (fun k ob' hk=>by
   by_cases hkk:k = w.heap.size
   · rw [if_pos hkk] at hk
     rw [hkk,← Option.some.inj hk]
     exact heap_alloc_new w.drew _
   · rw [if_neg hkk] at hk
     have hw':=h.imm k ob' hk
     exact (aba w _ (Array.getElem?_eq_some_iff.1 hw').1).trans hw')
  refine hK _ _ ⟨_,by exact hold,h'.putD o.dst (gn hd) (some (.v (.one (.p (.sl b'.size 1 false (aek b')))))) _ (fun y hy=>?_)⟩
  simp only [Option.some.injEq] at hy
  subst hy
  refine ⟨some ⟨w.heap.size,0,none⟩,_,rfl,grownCap_ge w _ _ _,grownCap_le_maxLen w _ _ _ hp,(fun hf=>by cases hf),fun _=>⟨w.heap.size,0,rfl,fun i j hi hj=>?_⟩⟩
  obtain rfl:j = 0:=by omega
  refine ⟨.int .u8 (cu b' i), ?_,rfl,rfl⟩
  unfold j6
  dsimp only
  rw [if_pos rfl,← hob]
  dsimp only
  unfold bytesRow cu
  have hsz:b'.data.size = b'.size:=rfl
  rw [Array.getElem?_append_left (by simp;omega)]
  have hlt:i < b'.data.size:=by omega
  simp
  exact ⟨b'.data[i],by simp,by simp [Array.getElem?_eq_getElem hlt]⟩
 | call cl f fst caps args p vs b hw hd ho hc hf hv hp hco hpure hb hM =>
  rw [if_pos (en h hw)]
  obtain ⟨fn,hfn,hname,hbody⟩:=hf
  obtain ⟨q1,q2⟩:=wz h (ajp h) hv hp
  obtain ⟨fo,us,cs,hcal,e1,hfst,hcapr⟩:∃ (fo:Operand) (us cs:List Value),cl.callee = .value fo ∧ a.eval fo = .func (.func f) us.toArray cs.toArray ∧ (∀ m:Imm,Imm.le c.imm m → cr m fst us) ∧ ∀ m:Imm,Imm.le c.imm m → cr m caps cs:=by
   unfold callee at hc
   split at hc <;> try (cases hc;done)
   rename_i fo hcal
   split at hc <;> try (cases hc;done)
   · rename_i g k capf hfo
     simp only [Option.some.injEq,Prod.mk.injEq] at hc
     obtain ⟨rfl,rfl,rfl⟩:=hc
     obtain ⟨cs,e1,hcl,hcr⟩:=ai h hfo
     refine ⟨fo,[],cs,hcal,e1,fun _ _=>trivial,fun m hm=>?_⟩
     have:=tc (m:=m) (caps:=capf) k 0 cs (by omega) (fun j hj=>by
      obtain ⟨x,hx,hr⟩:=hcr j (by omega)
      exact ⟨x,hx,b9.mono hm hr⟩)
     simpa using this
   · rename_i g k fr hfo
     simp only [Option.some.injEq,Prod.mk.injEq] at hc
     obtain ⟨rfl,rfl,rfl⟩:=hc
     obtain ⟨cs,e1,hcl,hcr⟩:=ai h hfo
     refine ⟨fo,[.agg cs.toArray],[],hcal,e1,fun m hm=>⟨⟨cs,rfl, ?_⟩,trivial⟩,fun _ _=>trivial⟩
     have:=a7x (m:=m) (f:=fr) k 0 cs (by omega) (fun j hj=>by
      obtain ⟨x,hx,hr⟩:=hcr j (by omega)
      exact ⟨x,hx,b9.mono hm hr⟩)
     simpa using this
  have hrun:(execOp a.eval o).run P w = .ok (.enter f (us ++ ((cl.args.toList.map a.eval) ++ cs)).toArray) w:=by
   unfold execOp
   simp only [ho,resolve,hcal,Sem.run_bind,e1,Deferred.ofValue,Sem.run_pure,Result.andThen_ok,invoke,callFunc,run_program,hfn,hname,hbody]
   simp
  unfold Oper.wp
  rw [hrun]
  rw [Oper.upon_enter]
  cases hbb:b with
  | false =>
   have hargs:cr c.imm args (us ++ (cl.args.toList.map a.eval ++ cs)):=CoL.sound hco (cr.append (hfst _ (Imm.le.refl _)) (cr.append (q2 hbb) (hcapr _ (Imm.le.refl _))))
   refine (hpure w c.imm _ c.tab h.imm hargs).mono ?_
   rintro e w' ⟨v,imm',rfl,hr,h1,h2,h3⟩
   have h':=h.later w' h3 imm' h1 h2
   exact hK _ _ ⟨_,by exact hold,h'.putD o.dst (gn hd) (some an.res.toH) v (fun y hy=>by
    simp only [Option.some.injEq] at hy
    subst hy
    exact b7.of_P hr)⟩
  | true =>
   have hflat:an.res.flat = true:=by rw [hbb] at hb;simpa using hb
   have hargs:cr (fp w) args (us ++ (cl.args.toList.map a.eval ++ cs)):=CoL.sound hco (cr.append (hfst _ (s5 h)) (cr.append q1 (hcapr _ (s5 h))))
   refine (hpure w (fp w) _ (c.tab.mono (s5 h)) (fun _ _ hh=>hh) hargs).mono ?_
   rintro e w' ⟨v,imm',rfl,hr,h1,h2,h3⟩
   have h':=h.later w' h3 (fun b=>if b < w.heap.size then c.imm b else none) (fun b hb=>by simp [hb]) (fun b ob hbo=>by
    by_cases hlt:b < w.heap.size
    · simp only [hlt,if_true] at hbo
      rw [h3.block b hlt]
      exact h.imm b ob hbo
    · simp [hlt] at hbo)
   exact hK _ _ ⟨_,by exact hold,h'.putD o.dst (gn hd) (some an.res.toH) v (fun y hy=>by
    simp only [Option.some.injEq] at hy
    subst hy
    exact b7.of_P (nc.flat hflat hr))⟩
 | fcall cl f caps args hcs o1 o2 res fx hw hd ho hc hf hv hco hfun hsub hnew hnm hcl hclr hW hN hM =>
  rw [if_pos (en h hw)]
  unfold sq at hc
  split at hc <;> try (cases hc;done)
  rename_i fo hcal
  obtain ⟨fn,hfn,hname,hbody⟩:=hf
  obtain ⟨cs,e1,hcapr⟩:∃ cs:List Value,a.eval fo = .func (.func f) #[] cs.toArray ∧ bz c s.o caps cs:=by
   split at hc <;> try (cases hc;done)
   · rename_i g k capf hfo
     simp only [Option.some.injEq,Prod.mk.injEq] at hc
     obtain ⟨rfl,rfl⟩:=hc
     obtain ⟨cs,e1,hcl',hcr⟩:=ai h hfo
     refine ⟨cs,e1, ?_⟩
     have:=tc (m:=c.imm) (caps:=capf) k 0 cs (by omega) (fun j hj=>by
      obtain ⟨x,hx,hr⟩:=hcr j (by omega)
      exact ⟨x,hx,hr⟩)
     exact bz.of_P (by simpa using this)
   · rename_i g k capf hfo
     simp only [Option.some.injEq,Prod.mk.injEq] at hc
     obtain ⟨rfl,rfl⟩:=hc
     obtain ⟨cs,e1,hcl',hcr⟩:=ai h hfo
     refine ⟨cs,e1, ?_⟩
     have:=z8 (c:=c) (o:=s.o) (caps:=capf) k 0 cs (by omega) (fun j hj=>hcr j (by omega))
     simpa using this
  have hrun:(execOp a.eval o).run P w = .ok (.enter f ((cl.args.toList.map a.eval) ++ cs).toArray) w:=by
   unfold execOp
   simp only [ho,resolve,hcal,Sem.run_bind,e1,Deferred.ofValue,Sem.run_pure,Result.andThen_ok,invoke,callFunc,run_program,hfn,hname,hbody]
   simp
  have hargs:bz c s.o args (cl.args.toList.map a.eval ++ cs):=bz.co hco (bz.append (a2e h hv) hcapr)
  obtain ⟨hmem,hto⟩:=h.lend hsub
  unfold Oper.wp
  rw [hrun]
  rw [Oper.upon_enter]
  refine (hfun w c _ hmem (hto _ _ hargs)).mono ?_
  rintro e w' ⟨v,c',rfl,hr,hm',hbel,hfr,hbk,hfx⟩
  obtain ⟨c'',q1,_,q2,q3⟩:=h.fcall hsub (fun id h2 h1=>hnew id h2 h1) (fun id h2 h1=>hnm id h2 h1) hcl hm' hbel hfr hbk hfx
  exact hK _ _ ⟨c'',q1.trans hold,q2.putD o.dst (gn hd) (some res) v (fun y hy=>by
   simp only [Option.some.injEq] at hy
   subst hy
   exact q3 _ _ hr hclr)⟩
theorem zx (hE:cq P E) {ro:Option Nat} {n:Nat} {x:Option HR} {wr:Wr} (he:Eff P E nt ops o an s x wr) (h:Rel w0 m0 nt s a w) {i:Nat} (hi:ops[i]? = some o) {K:Act → World → Prop} {Q:Exit → Act → World → Prop}
 (hK:∀ a' w',Rel w0 m0 nt (s.after o.dst x wr) a' w' → K a' w'):wpOpIn (rf ro) n P ops Q i K a w:=by
 have h1:=afe hE he h hi (Q:=Q) hK
 unfold afh at h1
 unfold wpOpIn
 simp only [hi] at h1 ⊢
 obtain ⟨c,hold,hr⟩:=h
 rcases he.nd with hn | hn
 · have hw:=en hr hn
   rw [if_neg (by rw [hw];simp)] at h1 ⊢
   exact ⟨fun _ _=>trivial,h1⟩
 · split
   · rename_i hw
     rw [if_pos hw] at h1
     exact vv hn h1
   · rename_i hw
     rw [if_neg hw] at h1
     exact ⟨fun _ _=>trivial,h1⟩
end
end Go.Hx
end

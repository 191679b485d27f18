/- A part of the proof: Hx10 Hx11. -/
import Derived.Laws.IdiomStrings
import Derived.OrdersIn
import Derived.RangeFuncCalls
import Derived.RangeFuncNested
import Derived.Test.YtdcdbghdgjlhhaaGreatOx08
set_option linter.all false
namespace Go.Hx
section
open Go.RowKit
def ay (P:Program) (f:FuncId) (args:List PC) (res:PR):Prop :=
 ∀ (w:World) (imm:Imm) (us:List Value),mi imm → (∀ b ob,imm b = some ob → w.heap[b]? = some ob) → ce imm args us →
  Calls P f us.toArray w fun e w'=>∃ v imm',e = .returned v ∧ kn imm' res v ∧ (∀ b,b < w.heap.size → imm' b = imm b) ∧ (∀ b ob,imm' b = some ob → w'.heap[b]? = some ob) ∧ Below w.heap.size w w'
def vn (o:aw):HV → Option (Prop × PV × Bool)
 | .p x=>some (True,x,false)
 | .ref id n =>
  match o id with
  | some (.arr _ s _ n' f)=>some (n' = n, .sl n s false f,true)
  | _=>none
 | _=>none
def qk (o:aw):List HV → Option (Prop × List PV × Bool)
 | []=>some (True,[],false)
 | x :: r =>
  match vn o x,qk o r with
  | some (p,y,b),some (q,ys,b')=>some (p ∧ q,y :: ys,b || b')
  | _,_=>none
def zb (o:aw):HV → Option (Prop × PV × Bool)
 | .ptr id off =>
  match o id with
  | some (.box l) =>
   match qk o (l.drop off) with
   | some (p,ys,_)=>some (p, .vp ys.length fun j=>ys.getD j .any,true)
   | none=>none
  | _=>none
 | h=>vn o h
def t7 (o:aw):HC → Option (Prop × PC × Bool)
 | .one h=>match zb o h with | some (p,y,b)=>some (p, .one y,b) | none=>none
 | .agg l=>match qk o l with | some (p,ys,b)=>some (p, .agg ys,b) | none=>none
def iw (o:aw) (e:Ev):List Operand → Option (Prop × List PC × Bool)
 | []=>some (True,[],false)
 | x :: r =>
  match e x,iw o e r with
  | some (.v cc),some (q,ys,b')=>match t7 o cc with | some (p,y,b)=>some (p ∧ q,y :: ys,b || b') | none=>none
  | _,_=>none
def mb (caps:Nat → PV):Nat → Nat → List PC
 | 0,_=>[]
 | n + 1,i=>.one (caps i) :: mb caps n (i + 1)
def PV.flat:PV → Bool
 | .raw _=>true
 | .any=>true
 | _=>false
def a4d:List PV → Bool
 | []=>true
 | x :: r=>x.flat && a4d r
def PC.flat:PC → Bool
 | .one x=>x.flat
 | .agg l=>a4d l
def a1o:List PC → Bool
 | []=>true
 | x :: r=>x.flat && a1o r
def PR.flat:PR → Bool
 | .v x=>x.flat
 | .tup l=>a1o l
theorem bc.flat {m m':Imm} {x:PV} {u:Value} (hf:x.flat = true) (h:bc m x u):bc m' x u:=by
 cases x <;> simp [PV.flat] at hf <;> exact h
theorem eb.flat {m m':Imm}:∀ {xs:List PV} {us:List Value},a4d xs = true → eb m xs us → eb m' xs us
 | [],[],_,_=>trivial
 | _ :: _,_ :: _,hf,h=>by
  simp only [a4d,Bool.and_eq_true] at hf
  exact ⟨h.1.flat hf.1,eb.flat hf.2 h.2⟩
 | [],_ :: _,_,h=>h.elim
 | _ :: _,[],_,h=>h.elim
theorem fz.flat {m m':Imm} {x:PC} {u:Value} (hf:x.flat = true) (h:fz m x u):fz m' x u:=by
 cases x with
 | one x=>exact bc.flat hf h
 | agg l=>obtain ⟨us,e,hl⟩:=h;exact ⟨us,e,hl.flat hf⟩
theorem ce.flat {m m':Imm}:∀ {xs:List PC} {us:List Value},a1o xs = true → ce m xs us → ce m' xs us
 | [],[],_,_=>trivial
 | _ :: _,_ :: _,hf,h=>by
  simp only [a1o,Bool.and_eq_true] at hf
  exact ⟨h.1.flat hf.1,ce.flat hf.2 h.2⟩
 | [],_ :: _,_,h=>h.elim
 | _ :: _,[],_,h=>h.elim
theorem kn.flat {m m':Imm} {x:PR} {u:Value} (hf:x.flat = true) (h:kn m x u):kn m' x u:=by
 cases x with
 | v x=>exact fz.flat hf h
 | tup l=>obtain ⟨us,e,hl⟩:=h;exact ⟨us,e,hl.flat hf⟩
def fq (w:World):Imm:=fun b=>w.heap[b]?
section
variable {P:Program} {E:Env} {w0:World} {nt:Nat} {c:Ctx} {s:S} {a:Act} {w:World}
structure sj (w0:World) (c:Ctx) (w:World) (m:Imm):Prop where
 le:Imm.le c.imm m
 new:∀ b,c.frm b = none → b < w.heap.size → m b = w.heap[b]?
theorem lg (h:ak w0 nt c s a w):Imm.le c.imm (fq w):=fun b ob hb=>h.imm b ob hb
theorem adh (h:ak w0 nt c s a w):sj w0 c w (fq w):=⟨lg h,fun _ _ _=>rfl⟩
theorem a01 {m:Imm} (hm:sj w0 c w m) {b off:Nat} {x:Value} (hb:c.frm b = none) (hc:w.cell? ⟨b,off,none⟩ = some x):i4 m b off = some x:=by
 have hlt:=World.block_lt_of_cell? w _ hc
 unfold World.cell? at hc
 unfold i4
 rw [hm.new b hb hlt]
 grind
theorem zl (h:ak w0 nt c s a w) {m:Imm} (hm:sj w0 c w m) {x:HV} {u:Value} (hu:bq c s.o x u) {p:Prop} {y:PV} {b:Bool} (hv:vn s.o x = some (p,y,b)) (hp:p) :
 bc m y u ∧ (b = false → bc c.imm y u):=by
 unfold vn at hv
 split at hv
 · simp only [Option.some.injEq,Prod.mk.injEq] at hv
   obtain ⟨_,rfl,rfl⟩:=hv
   exact ⟨bc.mono hm.le hu,fun _=>hu⟩
 · rename_i id n
   split at hv <;> try (cases hv;done)
   rename_i wr sz e n' f ho
   simp only [Option.some.injEq,Prod.mk.injEq] at hv
   obtain ⟨rfl,rfl,rfl⟩:=hv
   obtain rfl:n' = n:=hp
   refine ⟨?_,fun hb=>by cases hb⟩
   obtain ⟨_,_,h3⟩:=hu
   have hown:=(h3 _ _ _ _ ho rfl).2 rfl
   obtain ⟨h0,h1,h5⟩:=h.objs id _ ho
   rcases h5 with ⟨h6,xs,h2,h4⟩ | ⟨h6,h7,h8⟩
   · rcases h2.2 with ⟨hv,hz⟩ | ⟨g,cap,cur,hv,hbase,hheap,hcap,hmax,hcs,htake⟩
     · exact ⟨none,0,by rw [hown,hv,hz],by omega,by simp [maxLen],(fun hh=>by cases hh),fun hn=>by omega⟩
     refine ⟨_,cap,by rw [hown,hv],hcap,hmax,(fun hh=>by cases hh),fun hn=>⟨g,0,rfl,fun i j hi hj=>?_⟩⟩
     obtain ⟨x,hx,hr⟩:=h4 i j hi hj
     have:=h2.cells (g:=g) (by rw [hv];rfl) _ _ hx
     rw [add_lit] at this
     exact ⟨x,a01 hm (h.fsep id _ g ho (by rw [h6,hv];rfl)) this,bc.mono hm.le hr⟩
   obtain ⟨ad,cap,q1,q2,q3,q4,q5⟩:=bc.mono hm.le h8
   rw [hown]
   exact ⟨ad,cap,q1,q2,q3,(fun hh=>by cases hh),q5⟩
 cases hv
theorem u6 (h:ak w0 nt c s a w) {m:Imm} (hm:sj w0 c w m):∀ {xs:List HV} {us:List Value} (_:bh c s.o xs us) {p:Prop} {ys:List PV} {b:Bool} (_:qk s.o xs = some (p,ys,b)) (_:p),
 eb m ys us ∧ (b = false → eb c.imm ys us)
 | [],[],_,p,ys,b,hv,_=>by
  simp only [qk,Option.some.injEq,Prod.mk.injEq] at hv
  obtain ⟨_,rfl,_⟩:=hv
  exact ⟨trivial,fun _=>trivial⟩
 | x :: xs,u :: us,hu,p,ys,b,hv,hp=>by
  simp only [qk] at hv
  split at hv <;> try (cases hv;done)
  rename_i p1 y1 b1 p2 ys2 b2 h1 h2
  simp only [Option.some.injEq,Prod.mk.injEq] at hv
  obtain ⟨rfl,rfl,rfl⟩:=hv
  obtain ⟨q1,q2⟩:=zl h hm hu.1 h1 hp.1
  obtain ⟨q3,q4⟩:=u6 h hm hu.2 h2 hp.2
  exact ⟨⟨q1,q3⟩,fun hb=>by
   rw [Bool.or_eq_false_iff] at hb
   exact ⟨q2 hb.1,q4 hb.2⟩⟩
 | [],_ :: _,hu,_,_,_,_,_=>hu.elim
 | _ :: _,[],hu,_,_,_,_,_=>hu.elim
theorem a6t (h:ak w0 nt c s a w) {m:Imm} (hm:sj w0 c w m) {x:HV} {u:Value} (hu:bq c s.o x u) {p:Prop} {y:PV} {b:Bool} (hv:zb s.o x = some (p,y,b)) (hp:p) :
 bc m y u ∧ (b = false → bc c.imm y u):=by
 unfold zb at hv
 split at hv
 · rename_i id off
   split at hv <;> try (cases hv;done)
   rename_i l hl
   split at hv <;> try (cases hv;done)
   rename_i q ys bb hvl
   simp only [Option.some.injEq,Prod.mk.injEq] at hv
   obtain ⟨rfl,rfl,rfl⟩:=hv
   refine ⟨?_,fun hb=>by cases hb⟩
   obtain ⟨_,_,h3⟩:=hu
   obtain ⟨bk,hb,rfl⟩:=h3 l hl
   obtain ⟨b',C,e,h1,hblk,h2,h4,h5⟩:=h.objs id _ hl
   rw [hb] at h1
   simp only [Value.pointer.injEq,Option.some.injEq,Addr.mk.injEq,and_true] at h1
   subst h1
   obtain ⟨q1,_⟩:=u6 h hm (h5.drop off) hvl hp
   refine ⟨bk,off,rfl,fun j hj=>?_⟩
   obtain ⟨v,hv,hr⟩:=q1.get j ys[j] (List.getElem?_eq_getElem hj)
   refine ⟨v,a01 hm (h.fsep id _ bk hl (by rw [hblk];rfl)) ?_,by simpa [List.getD,List.getElem?_eq_getElem hj] using hr⟩
   rw [cell_of_row w bk (off + j) C e (0,0) h4]
   grind
 exact zl h hm hu hv hp
theorem zp (h:ak w0 nt c s a w) {m:Imm} (hm:sj w0 c w m) {x:HC} {u:Value} (hu:dq c s.o x u) {p:Prop} {y:PC} {b:Bool} (hv:t7 s.o x = some (p,y,b)) (hp:p) :
 fz m y u ∧ (b = false → fz c.imm y u):=by
 unfold t7 at hv
 split at hv
 · split at hv <;> try (cases hv;done)
   rename_i hvp
   simp only [Option.some.injEq,Prod.mk.injEq] at hv
   obtain ⟨rfl,rfl,rfl⟩:=hv
   exact a6t h hm hu hvp hp
 split at hv <;> try (cases hv;done)
 rename_i hvl
 simp only [Option.some.injEq,Prod.mk.injEq] at hv
 obtain ⟨rfl,rfl,rfl⟩:=hv
 obtain ⟨us,rfl,hl⟩:=hu
 obtain ⟨q1,q2⟩:=u6 h hm hl hvl hp
 exact ⟨⟨us,rfl,q1⟩,fun hb=>⟨us,rfl,q2 hb⟩⟩
theorem v4 (h:ak w0 nt c s a w) {m:Imm} (hm:sj w0 c w m):∀ {xs:List Operand} {p:Prop} {ys:List PC} {b:Bool} (_:iw s.o (ev s) xs = some (p,ys,b)) (_:p),
 ce m ys (xs.map a.eval) ∧ (b = false → ce c.imm ys (xs.map a.eval))
 | [],p,ys,b,hv,_=>by
  simp only [iw,Option.some.injEq,Prod.mk.injEq] at hv
  obtain ⟨_,rfl,_⟩:=hv
  exact ⟨trivial,fun _=>trivial⟩
 | x :: xs,p,ys,b,hv,hp=>by
  simp only [iw] at hv
  split at hv <;> try (cases hv;done)
  rename_i cc q ys2 b2 hx h2
  split at hv <;> try (cases hv;done)
  rename_i p1 y1 b1 h1
  simp only [Option.some.injEq,Prod.mk.injEq] at hv
  obtain ⟨rfl,rfl,rfl⟩:=hv
  obtain ⟨q1,q2⟩:=zp h hm (ai h hx) h1 hp.1
  obtain ⟨q3,q4⟩:=v4 h hm h2 hp.2
  exact ⟨⟨q1,q3⟩,fun hb=>by
   rw [Bool.or_eq_false_iff] at hb
   exact ⟨q2 hb.1,q4 hb.2⟩⟩
theorem np {m:Imm} {caps:Nat → PV}:∀ (n i:Nat) (cs:List Value),cs.length = i + n → (∀ j,j < i + n → ∃ x,cs[j]? = some x ∧ bc m (caps j) x) → ce m (mb caps n i) (cs.drop i)
 | 0,i,cs,hl,_=>by
  rw [List.drop_eq_nil_of_le (by omega)]
  trivial
 | n + 1,i,cs,hl,h=>by
  rw [List.drop_eq_getElem_cons (by omega)]
  obtain ⟨x,hx,hr⟩:=h i (by omega)
  rw [List.getElem?_eq_getElem (by omega)] at hx
  simp only [Option.some.injEq] at hx
  subst hx
  exact ⟨hr,np n (i + 1) cs (by omega) fun j hj=>h j (by omega)⟩
theorem ce.append {m:Imm}:∀ {xs ys:List PC} {us vs:List Value},ce m xs us → ce m ys vs → ce m (xs ++ ys) (us ++ vs)
 | [],_,[],_,_,h=>h
 | _ :: _,_,_ :: _,_,h,k=>⟨h.1,ce.append h.2 k⟩
 | [],_,_ :: _,_,h,_=>h.elim
 | _ :: _,_,[],_,h,_=>h.elim
end
def HC.ids:HC → List Nat
 | .one h=>h.ids
 | .agg l=>gl l
def ww:List HC → List Nat
 | []=>[]
 | x :: r=>x.ids ++ ww r
def HR.ids:HR → List Nat
 | .v x=>x.ids
 | .tup l=>ww l
def af.ids:af → List Nat
 | .mp ..=>[]
 | .bld ..=>[]
 | .ex ..=>[]
 | .bun _=>[]
 | .opq ..=>[]
 | .box l=>gl l
 | .arr ..=>[]
 | .arrh _ _ _ ms _=>ms
 | .nest _ _ _ _ _ _ (some p)=>[p.1]
 | .nest _ _ _ _ _ _ none=>[]
theorem HC.men_ids {x:HC} {k:Nat} (h:x.men k):k ∈ x.ids:=by
 cases x with
 | one h'=>exact HV.men_ids h
 | agg l=>exact jx h
theorem a3w:∀ {l:List HC} {k:Nat},(∃ h ∈ l,h.men k) → k ∈ ww l
 | [],_,⟨_,h,_⟩=>by cases h
 | x :: r,k,⟨h,hm,hk⟩=>by
  rcases List.mem_cons.1 hm with rfl | hm
  · exact List.mem_append_left _ (HC.men_ids hk)
  exact List.mem_append_right _ (a3w ⟨h,hm,hk⟩)
theorem HR.men_ids {x:HR} {k:Nat} (h:x.men k):k ∈ x.ids:=by
 cases x with
 | v x=>exact HC.men_ids h
 | tup l=>exact a3w h
theorem af.men_ids {x:af} {k:Nat} (h:x.men k):k ∈ x.ids:=by
 cases x with
 | mp kk n f=>exact h.elim
 | bld fr T e l=>exact h.elim
 | ex d v b x=>exact h.elim
 | bun B=>exact h.elim
 | opq s e n R=>exact h.elim
 | box l=>exact jx h
 | arr wr s e n f=>exact h.elim
 | arrh s e n ms f=>exact h
 | nest e et es n m g pd=>cases pd with | none=>exact h.elim | some p=>exact List.mem_singleton.2 h
def d6 (e:Ev):List Operand → List Nat
 | []=>[]
 | x :: r=>(match e x with | some v=>v.ids | none=>[]) ++ d6 e r
structure Ann where
 id:Nat
 wb:Bool
 ex:Bool
 res:PR
 W:List Nat
 N:List Nat
 M:List Nat
def bj (ops:Array Oper) (s:S) (o:Oper):Option Bool :=
 match o.guard with
 | none=>some true
 | some (j,want) =>
  match (ops[j]?).bind (·.dst) with
  | some d=>match s.t d with | some (.v (.one (.p (.raw (.bool b)))))=>some (b == want) | some (.tup [])=>some false | _=>none
  | none=>none
def dk (nt:Nat):Option Tmp → Bool
 | none=>true
 | some d=>decide (d < nt)
def pvN (f:Nat → PV):Nat → Nat → List PV
 | 0,_=>[]
 | n + 1,i=>f i :: pvN f n (i + 1)
theorem a3k {m:Imm} {f:Nat → PV}:∀ (n i:Nat) (cs:List Value),cs.length = i + n → (∀ j,j < i + n → ∃ x,cs[j]? = some x ∧ bc m (f j) x) → eb m (pvN f n i) (cs.drop i)
 | 0,i,cs,hl,_=>by
  rw [List.drop_eq_nil_of_le (by omega)]
  trivial
 | n + 1,i,cs,hl,h=>by
  obtain ⟨x,hx,hr⟩:=h i (by omega)
  have hlt:i < cs.length:=by omega
  rw [List.drop_eq_getElem_cons hlt]
  rw [List.getElem?_eq_getElem hlt] at hx
  simp only [Option.some.injEq] at hx
  rw [hx]
  exact ⟨hr,a3k n (i + 1) cs (by omega) fun j hj=>h j (by omega)⟩
def callee (e:Ev) (cl:Call):Option (FuncId × List PC × List PC) :=
 match cl.callee with
 | .value f =>
  match e f with
  | some (.v (.one (.p (.fn g k caps))))=>some (g,[],mb caps k 0)
  | some (.v (.one (.p (.bnd g m fr))))=>some (g,[.agg (pvN fr m 0)],[])
  | _=>none
 | _=>none
def a3d (caps:Nat → HV):Nat → Nat → List HC
 | 0,_=>[]
 | n + 1,i=>.one (caps i) :: a3d caps n (i + 1)
def qu (e:Ev) (cl:Call):Option (FuncId × List HC) :=
 match cl.callee with
 | .value f =>
  match e f with
  | some (.v (.one (.p (.fn g k caps))))=>some (g,(mb caps k 0).map PC.toH)
  | some (.v (.one (.clo g k caps)))=>some (g,a3d caps k 0)
  | _=>none
 | _=>none
def ahp (P:Program) (f:FuncId) (args:List PC) (res:PR):Prop:=∀ (m:Imm) (us:List Value) (w:World),ce m args us → ∃ v,(callFunc f us.toArray).run P w = .ok (.value v) w ∧ kn m res v
def am (P : Program) (f : FuncId) : Prop := ∃ fn, P.funcs[f]? = some fn ∧ (fn.name == "runtime.NumGoroutine") = false ∧ fn.body.isNone = false
theorem S.setW_one (s:S) (id:Nat) (ob:af):s.setW [(id,some ob)] = s.setO id (some ob):=by
 unfold S.setW S.setO
 simp only [S.mk.injEq,true_and]
 funext k
 by_cases hk:k = id
 · subst hk;simp [fw]
 have:Nat.beq id k = false:=by
  rw [Bool.eq_false_iff]
  exact fun hb=>hk (Nat.eq_of_beq_eq_true hb).symm
 simp [fw,this,hk]
theorem S.setW_none (s:S) (id:Nat):s.setW [(id,none)] = s.setO id none:=by
 unfold S.setW S.setO
 simp only [S.mk.injEq,true_and]
 funext k
 by_cases hk:k = id
 · subst hk;simp [fw]
 have:Nat.beq id k = false:=by
  rw [Bool.eq_false_iff]
  exact fun hb=>hk (Nat.eq_of_beq_eq_true hb).symm
 simp [fw,this,hk]
def o0 (e:Ev):List Operand → Option (List HC)
 | []=>some []
 | x :: r =>
  match e x,o0 e r with
  | some (.v cc),some l=>some (cc :: l)
  | _,_=>none
def a30:List (Nat × af) → List Nat
 | []=>[]
 | (_,x) :: r=>x.ids ++ a30 r
theorem a56 (w:World) (o:Obj) {k:Nat} (h:k < w.heap.size):(w.drew.alloc o).heap[k]? = w.heap[k]?:=by
 show (w.heap.push o)[k]? = w.heap[k]?
 grind
def a98 (b:ByteArray):Nat → Nat → PV:=fun i _=>.raw (.int .u8 (da b i))
def a14 (E:Env) (e:Ev) (sr ds:TypeId) (x:Operand):Option ByteArray :=
 match E sr,E ds,e x with
 | some ti,some td,some (.v (.one (.p (.raw (.string b))))) =>
  match ti.k,td.k with
  | .string, .slice el =>
   match E el with
   | some ei=>match ei.k with | .int .u8=>some b | _=>none
   | none=>none
  | _,_=>none
 | _,_,_=>none
inductive Eff (P:Program) (E:Env) (nt:Nat) (ops:Array Oper) (o:Oper) (an:Ann) (s:S):Option HR → Wr → Prop where
 | cut (out:Out) (id:Nat) (hw:bj ops s o = some true) (hd:dk nt o.dst = true) (hq':qn E s.o (ev s) o.op = some (out,id)) (hp:out.pre) (hW:an.W = [id]):Eff P E nt ops o an s (some out.val) [(id,none)]
 | skip (hw:bj ops s o = some false) (hd:dk nt o.dst = true):Eff P E nt ops o an s (some (.tup [])) []
 | quiet (out:Out) (hw:bj ops s o = some true) (hd:dk nt o.dst = true) (hq':hq E an.ex s.o (ev s) o.op = some out) (hp:out.pre) (hM:out.val.ids = an.M):Eff P E nt ops o an s (some out.val) []
 | make (nw:New) (hw:bj ops s o = some true) (hd:dk nt o.dst = true) (hq':ha E (ev s) an.id o.op = some nw) (hp:nw.pre) (hm:NM s an.id) (hn:s.o an.id = none)
  (hW:an.W = [an.id]) (hN:an.N = [an.id]) (hM:nw.val.ids ++ nw.ob.ids = an.M):Eff P E nt ops o an s (some nw.val) [(an.id,some nw.ob)]
 | store (u:Upd) (hw:bj ops s o = some true) (hd:dk nt o.dst = true) (hq':hs E s.o (ev s) o.op = some u) (hp:u.pre) (hW:an.W = [u.id]) (hM:∀ k ∈ u.ob.ids,k ∈ an.M):Eff P E nt ops o an s none [(u.id,some u.ob)]
 | app (u:App) (hw:bj ops s o = some true) (hd:dk nt o.dst = true) (hq':hap E s.o (ev s) an.id an.wb o.op = some u) (hp:u.pre) (hn:u.new = true → NM s an.id ∧ s.o an.id = none)
  (hW:an.W = [u.id]) (hN:u.new = true → an.N = [an.id]) (hM:u.val.ids ++ u.ob.ids = an.M):Eff P E nt ops o an s (some u.val) [(u.id,some u.ob)]
 | call (cl:Call) (f:FuncId) (fst caps args:List PC) (p:Prop) (vs:List PC) (b:Bool) (hw:bj ops s o = some true) (hd:dk nt o.dst = true) (ho:o.op = .call cl) (hc:callee (ev s) cl = some (f,fst,caps)) (hf:(am P f ∧ ay P f args an.res) ∨ ahp P f args an.res)
  (hv:iw s.o (ev s) cl.args.toList = some (p,vs,b)) (hp:p) (hco:CoL (fst ++ (vs ++ caps)) args) (hpure:True) (hb:(!b || an.res.flat) = true) (hM:an.M = []):Eff P E nt ops o an s (some an.res.toH) []
 | conv (sr ds:TypeId) (x:Operand) (b:ByteArray) (hw:bj ops s o = some true) (hd:dk nt o.dst = true) (ho:o.op = .convert sr ds x) (hcv:a14 E (ev s) sr ds x = some b) (hp:b.size ≤ maxLen) (hM:an.M = []) :
  Eff P E nt ops o an s (some (.v (.one (.p (.sl b.size 1 false (a98 b)))))) []
 | fcall (cl:Call) (f:FuncId) (caps:List HC) (args hcs:List HC) (o1 o2:List (Nat × af)) (res:HR) (fx:List Nat) (hw:bj ops s o = some true) (hd:dk nt o.dst = true) (ho:o.op = .call cl) (hc:qu (ev s) cl = some (f,caps)) (hf:am P f)
  (hv:o0 (ev s) cl.args.toList = some hcs) (hco:bg (hcs ++ caps) args) (hfun:br P f args o1 res o2 fx) (hsub:∀ id ob,lk o1 id = some ob → ∃ ob',s.o id = some ob' ∧ CoO ob' ob)
  (hnew:∀ id ∈ d7 o2,id ∉ d7 o1 → s.o id = none) (hnm:∀ id ∈ d7 o2,id ∉ fx ∨ id ∉ d7 o1 → NMx s (d7 o1 ++ d7 o2) id) (hcl:∀ id ob,lk o2 id = some ob → ∀ k,ob.men k → k ∈ d7 o2) (hclr:∀ k,res.men k → k ∈ d7 o2)
  (hW:an.W = d7 o1 ++ d7 o2) (hN:∀ id ∈ d7 o2,id ∉ fx ∨ id ∉ d7 o1 → id ∈ an.N) (hM:an.M = res.ids ++ a30 o2):Eff P E nt ops o an s (some res) (tu o1 o2)
theorem a60:∀ (l:List PV),gl (l.map .p) = []
 | []=>rfl
 | _ :: r=>by simp [gl,HV.ids,a60 r]
theorem a3b:∀ (l:List PC),ww (l.map PC.toH) = []
 | []=>rfl
 | .one _ :: r=>by simp [ww,HC.ids,PC.toH,HV.ids,a3b r]
 | .agg l :: r=>by simp [ww,HC.ids,PC.toH,a60 l,a3b r]
theorem PR.ids_toH (x:PR):x.toH.ids = []:=by
 cases x with
 | v x=>cases x <;> simp [PR.toH,HR.ids,PC.toH,HC.ids,HV.ids,a60]
 | tup l=>simp [PR.toH,HR.ids,a3b]
def S.after (s:S) (d:Option Tmp) (x:Option HR) (wr:Wr):S:=(s.setW wr).putD d x
def rf (ro:Option Nat):Fence:={ fn:=fun _=>True,depth:=none,alive:=false,round:=ro }
theorem a8p {P:Program} {ro:Option Nat} {n:Nat} {f:FuncId} {args:Array Value} {w:World} {R:Ending → World → Prop} (h:Calls P f args w R):CallsIn (rf ro) n P f args w R:=(callsIn_wide (n:=n)).2 h
theorem a9t {P:Program} {ro:Option Nat} {n:Nat} {row:String} {args:Array Value} {w:World} {R:Value → World → Prop} (h:Rows P row args w R):RowsIn (rf ro) n P row args w R:=fun c cs _=>by
 obtain ⟨v,w',r,s⟩:=h c cs
 exact ⟨v,w',r,stepsIn_wide.2 s⟩
theorem zo {P:Program} {ro:Option Nat} {n:Nat} {o:Oper} {a:Act} {w:World} {K:Act → World → Prop} {Q:Exit → Act → World → Prop} (hnd:∀ c,o.op ≠ .defer c) (h:o.wp P a w K Q):o.wpIn (rf ro) n P a w K Q:=by
 refine ⟨fun _ _=>trivial, ?_⟩
 rw [Oper.semAt_eq _ _ _ hnd]
 unfold Oper.wp at h
 generalize (execOp a.eval o).run P w = r at *
 cases r with
 | ok x w' =>
  cases x <;> simp only [Oper.upon,Oper.uponIn] at h ⊢ <;>
   first
    | exact h
    | exact ⟨(fun hh=>absurd hh (by simp [rf])),a8p h⟩
    | exact ⟨(fun hh=>absurd hh (by simp [rf])),a9t h⟩
    | exact h.elim
 | halt x w'=>cases x <;> simp only [Oper.upon,Oper.uponIn] at h ⊢ <;> first | exact h | exact h.elim
def a8x (P:Program) (ops:Array Oper) (Q:Exit → Act → World → Prop) (i:Nat) (K:Act → World → Prop) (a:Act) (w:World):Prop :=
 match ops[i]? with
 | none=>K a w
 | some o=>if Region.wanted o (yielded ops a.tmps) then o.wp P a w K Q else K (a.put o.dst undef) w
theorem Eff.nd {P:Program} {E:Env} {nt:Nat} {ops:Array Oper} {o:Oper} {an:Ann} {s:S} {x:Option HR} {wr:Wr} (he:Eff P E nt ops o an s x wr):bj ops s o = some false ∨ ∀ c,o.op ≠ .defer c:=by
 cases he with
 | skip hw hd=>exact .inl hw
 | cut out id hw hd hq' hp hW=>exact .inr fun c hc=>by rw [hc] at hq';cases hq'
 | quiet out hw hd hq' hp hM=>exact .inr fun c hc=>by rw [hc] at hq';cases hq'
 | make nw hw hd hq' hp hm hn hW hN hM=>exact .inr fun c hc=>by rw [hc] at hq';cases hq'
 | store u hw hd hq' hp hW hM=>exact .inr fun c hc=>by rw [hc] at hq';cases hq'
 | app u hw hd hq' hp hn hW hN hM=>exact .inr fun c hc=>by rw [hc] at hq';cases hq'
 | call cl f fst caps args p vs b hw hd ho hc hf hv hp hco hpure hb hM=>exact .inr fun c hc=>by rw [hc] at ho;cases ho
 | conv sr ds x b hw hd ho hcv hp hM=>exact .inr fun c hc=>by rw [hc] at ho;cases ho
 | fcall cl f caps args hcs o1 o2 res fx hw hd ho hc hf hv hco hfun hsub hnew hnm hcl hclr hW hN hM=>exact .inr fun c hc=>by rw [hc] at ho;cases ho
section
variable {P:Program} {E:Env} {w0:World} {m0:Old} {nt:Nat} {s:S} {a:Act} {w:World} {ops:Array Oper} {o:Oper} {an:Ann}
theorem fj (h:dk nt o.dst = true):∀ k,o.dst = some k → k < nt:=by
 intro k hk
 rw [hk] at h
 exact of_decide_eq_true h
theorem dx {c:Ctx} (h:ak w0 nt c s a w) {b:Bool} (hw:bj ops s o = some b):Region.wanted o (yielded ops a.tmps) = b:=by
 unfold bj at hw
 unfold Region.wanted
 split at hw
 · grind
 rename_i j want hg
 rw [hg]
 split at hw <;> try (cases hw;done)
 rename_i d hd
 split at hw <;> try (cases hw;done)
 rotate_left
 · rename_i hb
   simp only [Option.some.injEq] at hw
   obtain ⟨us,e1,e2⟩:=h.tmps d _ hb
   have e3:us = []:=by cases us with | nil=>rfl | cons=>exact e2.elim
   subst e3
   show (yielded ops a.tmps j == some want) = b
   have hy:yielded ops a.tmps j = none:=by
    unfold yielded
    rw [hd]
    simp only [Option.bind_some]
    rcases Nat.lt_or_ge d a.tmps.size with h' | h'
    · simp_all
    grind
   grind
 rename_i bb hb
 simp only [Option.some.injEq] at hw
 obtain ⟨e1,_⟩:=h.tmps d _ hb
 have hsz:d < a.tmps.size:=by
  rcases Nat.lt_or_ge d a.tmps.size with h' | h'
  · exact h'
  have:a.tmps.getD d undef = undef:=by simp [Array.getElem?_eq_none h']
  rw [this] at e1
  cases e1
 have:a.tmps[d]? = some (.bool bb):=by
  simp_all
 have hy:yielded ops a.tmps j = some bb:=by
  unfold yielded
  grind
 simp_all
theorem c6.append {c:Ctx} {o:aw}:∀ {xs ys:List HC} {us vs:List Value},c6 c o xs us → c6 c o ys vs → c6 c o (xs ++ ys) (us ++ vs)
 | [],_,[],_,_,h=>h
 | _ :: _,_,_ :: _,_,h,k=>⟨h.1,c6.append h.2 k⟩
 | [],_,_ :: _,_,h,_=>h.elim
 | _ :: _,_,[],_,h,_=>h.elim
theorem wz {c:Ctx} {o:aw} {caps:Nat → HV}:∀ (n i:Nat) (cs:List Value),cs.length = i + n → (∀ j,j < i + n → ∃ x,cs[j]? = some x ∧ bq c o (caps j) x) → c6 c o (a3d caps n i) (cs.drop i)
 | 0,i,cs,hl,_=>by
  rw [List.drop_eq_nil_of_le (by omega)]
  trivial
 | n + 1,i,cs,hl,h=>by
  rw [List.drop_eq_getElem_cons (by omega)]
  obtain ⟨x,hx,hr⟩:=h i (by omega)
  rw [List.getElem?_eq_getElem (by omega)] at hx
  simp only [Option.some.injEq] at hx
  subst hx
  exact ⟨hr,wz n (i + 1) cs (by omega) fun j hj=>h j (by omega)⟩
theorem a04 {c:Ctx} (h:ak w0 nt c s a w):∀ {l:List Operand} {hcs:List HC},o0 (ev s) l = some hcs → c6 c s.o hcs (l.map a.eval)
 | [],hcs,hv=>by
  simp only [o0,Option.some.injEq] at hv
  subst hv
  trivial
 | x :: r,hcs,hv=>by
  simp only [o0] at hv
  split at hv <;> try (cases hv;done)
  rename_i cc l e1 e2
  simp only [Option.some.injEq] at hv
  subst hv
  exact ⟨ai h e1,a04 h e2⟩
theorem a8b (hE:cr P E) {x:Option HR} {wr:Wr} (he:Eff P E nt ops o an s x wr) (h:Rel w0 m0 nt s a w) {i:Nat} (hi:ops[i]? = some o) {K:Act → World → Prop} {Q:Exit → Act → World → Prop}
 (hK:∀ a' w',Rel w0 m0 nt (s.after o.dst x wr) a' w' → K a' w'):a8x P ops Q i K a w:=by
 obtain ⟨c,hold,h⟩:=h
 unfold a8x
 simp only [hi]
 cases he with
 | cut out id hw hd hq' hp hW =>
  rw [if_pos (dx h hw)]
  obtain ⟨v,c',h1,hold',h2,h3⟩:=a6s hE h hq' hp
  unfold Oper.wp
  rw [h1]
  refine hK _ _ ⟨c',hold'.trans hold, ?_⟩
  have e:s.after o.dst (some out.val) [(id,none)] = (s.setO id none).putD o.dst (some out.val):=by
   unfold S.after
   rw [S.setW_none]
  rw [e]
  exact h2.putD o.dst (fj hd) (some out.val) v (fun y hy=>by
   simp only [Option.some.injEq] at hy
   subst hy
   exact h3)
 | skip hw hd =>
  rw [if_neg (by rw [dx h hw];simp)]
  exact hK _ _ ⟨c,hold,h.putD o.dst (fj hd) (some (.tup [])) undef (fun y hy=>by cases hy;exact ⟨[],rfl,trivial⟩)⟩
 | quiet out hw hd hq' hp hM =>
  rw [if_pos (dx h hw)]
  obtain ⟨v,h1,h2⟩:=a5a hE h hq' hp
  unfold Oper.wp
  rw [h1]
  exact hK _ _ ⟨c,hold,h.putD o.dst (fj hd) (some out.val) v (fun y hy=>by
   simp only [Option.some.injEq] at hy
   subst hy
   exact h2)⟩
 | make nw hw hd hq' hp hm hn hW hN hM =>
  rw [if_pos (dx h hw)]
  obtain ⟨v,w',c',h1,ho',h2,h3⟩:=ac9 hE h hq' hp hm hn
  have hold':=ho'.trans hold
  unfold Oper.wp
  rw [h1]
  exact hK _ _ ⟨c',hold',(by unfold S.after;rw [S.setW_one];exact h2.putD o.dst (fj hd) (some nw.val) v (fun y hy=>by
   simp only [Option.some.injEq] at hy
   subst hy
   exact h3))⟩
 | store u hw hd hq' hp hW hM =>
  rw [if_pos (dx h hw)]
  obtain ⟨w',c',h1,ho',h2⟩:=ad8 hE h hq' hp
  have hold':=ho'.trans hold
  unfold Oper.wp
  rw [h1]
  exact hK _ _ ⟨c',hold',(by unfold S.after;rw [S.setW_one];exact h2.putD o.dst (fj hd) none undef (fun y hy=>by cases hy))⟩
 | app u hw hd hq' hp hn hW hN hM =>
  rw [if_pos (dx h hw)]
  obtain ⟨v,w',c',h1,⟨ho',h2⟩,h3⟩:=abp hE h hq' hp hn
  have hold':=ho'.trans hold
  unfold Oper.wp
  rw [h1]
  exact hK _ _ ⟨c',hold',(by unfold S.after;rw [S.setW_one];exact h2.putD o.dst (fj hd) (some u.val) v (fun y hy=>by
   simp only [Option.some.injEq] at hy
   subst hy
   exact h3))⟩
 | conv sr ds x b hw hd ho hcv hp hM =>
  rw [if_pos (dx h hw)]
  unfold a14 at hcv
  split at hcv <;> try (cases hcv;done)
  rename_i ti td b' e1 e2 e3
  split at hcv <;> try (cases hcv;done)
  rename_i el e4 e5
  split at hcv <;> try (cases hcv;done)
  rename_i ei e6
  split at hcv <;> try (cases hcv;done)
  rename_i e7
  simp only [Option.some.injEq] at hcv
  subst hcv
  obtain ⟨_,d1,_,p1,q1,_⟩:=bd (hE sr ti e1)
  obtain ⟨_,d2,_,p2,q2,_⟩:=bd (hE ds td e2)
  obtain ⟨_,d3,_,p3,q3,_⟩:=bd (hE el ei e6)
  have r1:d1 = .string:=by rw [e4] at q1;cases d1 <;> simp [fy] at q1 ⊢
  have r2:d2 = .slice el:=du (q2.symm.trans e5)
  have r3:d3 = .int .u8:=by
   rw [e7] at q3
   cases d3 <;> simp [fy] at q3 ⊢
   exact q3.symm
  subst r1 r2 r3
  have hev:a.eval x = .string b':=(ai h e3).1
  have hrun:=run_bytes_of_string (P:=P) w sr ds el b' p1 p2 p3
  have hex:(execOp a.eval o).run P w = .ok (.value (.slice (some ⟨w.heap.size,0,none⟩) b'.size (grownCap w b'.size 0 el)))
   (w.drew.alloc (.cells (bytesRow b' (grownCap w b'.size 0 el)) el ((bytesRow b' (grownCap w b'.size 0 el)).size,(bytesRow b' (grownCap w b'.size 0 el)).size + 1))):=by
   unfold execOp
   simp_all
  unfold Oper.wp
  rw [hex]
  generalize hob:Obj.cells (bytesRow b' (grownCap w b'.size 0 el)) el ((bytesRow b' (grownCap w b'.size 0 el)).size,(bytesRow b' (grownCap w b'.size 0 el)).size + 1) = ob
  have h':=h.later (w.drew.alloc ob) ⟨rfl,rfl,rfl,by simp,fun k hk=>a56 w _ hk,Nat.le_succ _⟩ (fun k=>if k = w.heap.size then some ob else c.imm k) (fun k hk=>if_neg (by omega)) (fun k ob' hk=>by
   by_cases hkk:k = w.heap.size
   · rw [if_pos hkk] at hk
     rw [hkk,← Option.some.inj hk]
     exact heap_alloc_new w.drew _
   rw [if_neg hkk] at hk
   have hw':=h.imm k ob' hk
   exact (a56 w _ (Array.getElem?_eq_some_iff.1 hw').1).trans hw')
  refine hK _ _ ⟨_,by exact hold,h'.putD o.dst (fj hd) (some (.v (.one (.p (.sl b'.size 1 false (a98 b')))))) _ (fun y hy=>?_)⟩
  simp only [Option.some.injEq] at hy
  subst hy
  refine ⟨some ⟨w.heap.size,0,none⟩,_,rfl,grownCap_ge w _ _ _,grownCap_le_maxLen w _ _ _ hp,(fun hf=>by cases hf),fun _=>⟨w.heap.size,0,rfl,fun i j hi hj=>?_⟩⟩
  obtain rfl:j = 0:=by omega
  refine ⟨.int .u8 (da b' i), ?_,rfl,rfl⟩
  unfold i4
  dsimp only
  rw [if_pos rfl,← hob]
  dsimp only
  unfold bytesRow da
  have hsz:b'.data.size = b'.size:=rfl
  rw [Array.getElem?_append_left (by simp;omega)]
  grind
 | call cl f fst caps args p vs b hw hd ho hc hf hv hp hco hpure hb hM =>
  rw [if_pos (dx h hw)]
  obtain ⟨q1,q2⟩:=v4 h (adh h) hv hp
  obtain ⟨fo,us,cs,hcal,e1,hfst,hcapr⟩:∃ (fo:Operand) (us cs:List Value),cl.callee = .value fo ∧ a.eval fo = .func (.func f) us.toArray cs.toArray ∧ (∀ m:Imm,Imm.le c.imm m → ce m fst us) ∧ ∀ m:Imm,Imm.le c.imm m → ce m caps cs:=by
   unfold callee at hc
   split at hc <;> try (cases hc;done)
   rename_i fo hcal
   split at hc <;> try (cases hc;done)
   · rename_i g k capf hfo
     simp only [Option.some.injEq,Prod.mk.injEq] at hc
     obtain ⟨rfl,rfl,rfl⟩:=hc
     obtain ⟨cs,e1,hcl,hcr⟩:=ai h hfo
     refine ⟨fo,[],cs,hcal,e1,fun _ _=>trivial,fun m hm=>?_⟩
     have:=np (m:=m) (caps:=capf) k 0 cs (by omega) (fun j hj=>by
      obtain ⟨x,hx,hr⟩:=hcr j (by omega)
      exact ⟨x,hx,bc.mono hm hr⟩)
     grind
   rename_i g k fr hfo
   simp only [Option.some.injEq,Prod.mk.injEq] at hc
   obtain ⟨rfl,rfl,rfl⟩:=hc
   obtain ⟨cs,e1,hcl,hcr⟩:=ai h hfo
   refine ⟨fo,[.agg cs.toArray],[],hcal,e1,fun m hm=>⟨⟨cs,rfl, ?_⟩,trivial⟩,fun _ _=>trivial⟩
   have:=a3k (m:=m) (f:=fr) k 0 cs (by omega) (fun j hj=>by
    obtain ⟨x,hx,hr⟩:=hcr j (by omega)
    exact ⟨x,hx,bc.mono hm hr⟩)
   grind
  rcases hf with ⟨⟨fn,hfn,hname,hbody⟩,hpure⟩ | hx
  ·
   have hrun:(execOp a.eval o).run P w = .ok (.enter f (us ++ ((cl.args.toList.map a.eval) ++ cs)).toArray) w:=by
    unfold execOp
    simp only [ho,resolve,hcal,Sem.run_bind,e1,Deferred.ofValue,Sem.run_pure,Result.andThen_ok,invoke,callFunc,run_program,hfn,hname,hbody]
    simp
   unfold Oper.wp
   rw [hrun]
   rw [Oper.upon_enter]
   cases hbb:b with
   | false =>
    have hargs:ce c.imm args (us ++ (cl.args.toList.map a.eval ++ cs)):=CoL.sound hco (ce.append (hfst _ (Imm.le.refl _)) (ce.append (q2 hbb) (hcapr _ (Imm.le.refl _))))
    refine (hpure w c.imm _ c.tab h.imm hargs).mono ?_
    rintro e w' ⟨v,imm',rfl,hr,h1,h2,h3⟩
    have h':=h.later w' h3 imm' h1 h2
    exact hK _ _ ⟨_,by exact hold,h'.putD o.dst (fj hd) (some an.res.toH) v (fun y hy=>by
     simp only [Option.some.injEq] at hy
     subst hy
     exact ax.of_P hr)⟩
   | true =>
    have hflat:an.res.flat = true:=by rw [hbb] at hb;simpa using hb
    have hargs:ce (fq w) args (us ++ (cl.args.toList.map a.eval ++ cs)):=CoL.sound hco (ce.append (hfst _ (lg h)) (ce.append q1 (hcapr _ (lg h))))
    refine (hpure w (fq w) _ (c.tab.mono (lg h)) (fun _ _ hh=>hh) hargs).mono ?_
    rintro e w' ⟨v,imm',rfl,hr,h1,h2,h3⟩
    have h':=h.later w' h3 (fun b=>if b < w.heap.size then c.imm b else none) (fun b hb=>by simp [hb]) (fun b ob hbo=>by
     by_cases hlt:b < w.heap.size
     · simp only [hlt,if_true] at hbo
       rw [h3.block b hlt]
       exact h.imm b ob hbo
     simp [hlt] at hbo)
    exact hK _ _ ⟨_,by exact hold,h'.putD o.dst (fj hd) (some an.res.toH) v (fun y hy=>by
     simp only [Option.some.injEq] at hy
     subst hy
     exact ax.of_P (kn.flat hflat hr))⟩
  have hstep:∀ v,(callFunc f (us ++ ((cl.args.toList.map a.eval) ++ cs)).toArray).run P w = .ok (.value v) w → (execOp a.eval o).run P w = .ok (.value v) w:=fun v hv2=>by
   rw [← hv2]
   unfold execOp
   simp only [ho,resolve,hcal,Sem.run_bind,e1,Deferred.ofValue,Sem.run_pure,Result.andThen_ok,invoke]
   simp
   congr 2
   apply Array.ext'
   simp
  cases hbb:b with
  | false =>
   have hargs:ce c.imm args (us ++ (cl.args.toList.map a.eval ++ cs)):=CoL.sound hco (ce.append (hfst _ (Imm.le.refl _)) (ce.append (q2 hbb) (hcapr _ (Imm.le.refl _))))
   obtain ⟨v,hv2,hr⟩:=hx c.imm _ w hargs
   unfold Oper.wp
   rw [hstep v hv2]
   exact hK _ _ ⟨_,by exact hold,h.putD o.dst (fj hd) (some an.res.toH) v (fun y hy=>by
    simp only [Option.some.injEq] at hy
    subst hy
    exact ax.of_P hr)⟩
  | true =>
   have hflat:an.res.flat = true:=by rw [hbb] at hb;simpa using hb
   have hargs:ce (fq w) args (us ++ (cl.args.toList.map a.eval ++ cs)):=CoL.sound hco (ce.append (hfst _ (lg h)) (ce.append q1 (hcapr _ (lg h))))
   obtain ⟨v,hv2,hr⟩:=hx (fq w) _ w hargs
   unfold Oper.wp
   rw [hstep v hv2]
   exact hK _ _ ⟨_,by exact hold,h.putD o.dst (fj hd) (some an.res.toH) v (fun y hy=>by
    simp only [Option.some.injEq] at hy
    subst hy
    exact ax.of_P (kn.flat hflat hr))⟩
 | fcall cl f caps args hcs o1 o2 res fx hw hd ho hc hf hv hco hfun hsub hnew hnm hcl hclr hW hN hM =>
  rw [if_pos (dx h hw)]
  unfold qu at hc
  split at hc <;> try (cases hc;done)
  rename_i fo hcal
  obtain ⟨fn,hfn,hname,hbody⟩:=hf
  obtain ⟨cs,e1,hcapr⟩:∃ cs:List Value,a.eval fo = .func (.func f) #[] cs.toArray ∧ c6 c s.o caps cs:=by
   split at hc <;> try (cases hc;done)
   · rename_i g k capf hfo
     simp only [Option.some.injEq,Prod.mk.injEq] at hc
     obtain ⟨rfl,rfl⟩:=hc
     obtain ⟨cs,e1,hcl',hcr⟩:=ai h hfo
     refine ⟨cs,e1, ?_⟩
     have:=np (m:=c.imm) (caps:=capf) k 0 cs (by omega) (fun j hj=>by
      obtain ⟨x,hx,hr⟩:=hcr j (by omega)
      exact ⟨x,hx,hr⟩)
     exact c6.of_P (by simpa using this)
   rename_i g k capf hfo
   simp only [Option.some.injEq,Prod.mk.injEq] at hc
   obtain ⟨rfl,rfl⟩:=hc
   obtain ⟨cs,e1,hcl',hcr⟩:=ai h hfo
   refine ⟨cs,e1, ?_⟩
   have:=wz (c:=c) (o:=s.o) (caps:=capf) k 0 cs (by omega) (fun j hj=>hcr j (by omega))
   simp_all
  have hrun:(execOp a.eval o).run P w = .ok (.enter f ((cl.args.toList.map a.eval) ++ cs).toArray) w:=by
   unfold execOp
   simp only [ho,resolve,hcal,Sem.run_bind,e1,Deferred.ofValue,Sem.run_pure,Result.andThen_ok,invoke,callFunc,run_program,hfn,hname,hbody]
   simp
  have hargs:c6 c s.o args (cl.args.toList.map a.eval ++ cs):=c6.co hco (c6.append (a04 h hv) hcapr)
  obtain ⟨hmem,hto⟩:=h.lend hsub
  unfold Oper.wp
  rw [hrun]
  rw [Oper.upon_enter]
  refine (hfun w c _ hmem (hto _ _ hargs)).mono ?_
  rintro e w' ⟨v,c',rfl,hr,hm',hbel,hfr,hbk,hfx⟩
  obtain ⟨c'',q1,_,q2,q3⟩:=h.fcall hsub (fun id h2 h1=>hnew id h2 h1) (fun id h2 h1=>hnm id h2 h1) hcl hm' hbel hfr hbk hfx
  exact hK _ _ ⟨c'',q1.trans hold,q2.putD o.dst (fj hd) (some res) v (fun y hy=>by
   simp only [Option.some.injEq] at hy
   subst hy
   exact q3 _ _ hr hclr)⟩
theorem yb (hE:cr P E) {ro:Option Nat} {n:Nat} {x:Option HR} {wr:Wr} (he:Eff P E nt ops o an s x wr) (h:Rel w0 m0 nt s a w) {i:Nat} (hi:ops[i]? = some o) {K:Act → World → Prop} {Q:Exit → Act → World → Prop}
 (hK:∀ a' w',Rel w0 m0 nt (s.after o.dst x wr) a' w' → K a' w'):wpOpIn (rf ro) n P ops Q i K a w:=by
 have h1:=a8b hE he h hi (Q:=Q) hK
 unfold a8x at h1
 unfold wpOpIn
 simp only [hi] at h1 ⊢
 obtain ⟨c,hold,hr⟩:=h
 rcases he.nd with hn | hn
 · have hw:=dx hr hn
   rw [if_neg (by rw [hw];simp)] at h1 ⊢
   exact ⟨fun _ _=>trivial,h1⟩
 split
 · rename_i hw
   rw [if_pos hw] at h1
   exact zo hn h1
 rename_i hw
 rw [if_neg hw] at h1
 exact ⟨fun _ _=>trivial,h1⟩
end
end
section
open Go.RowKit
section
variable {E:Env} {ex:Bool} {o o':aw} {e e':Ev}
theorem ef {x:Operand} {r:HR} (hx:e x = some r):∀ {l:List Operand},x ∈ l → ∀ k ∈ r.ids,k ∈ d6 e l
 | y :: l,hm,k,hk=>by
  rcases List.mem_cons.1 hm with rfl | hm
  · simp only [d6,hx];exact List.mem_append_left _ hk
  simp only [d6];exact List.mem_append_right _ (ef hx hm k hk)
theorem lx:∀ {l:List Operand},(∀ x ∈ l,e' x = e x) → d6 e' l = d6 e l
 | [],_=>rfl
 | x :: l,h=>by
  simp only [d6]
  rw [h x (by simp),lx fun y hy=>h y (by simp [hy])]
theorem tl {h:HV} (ho:∀ k ∈ h.ids,o' k = o k):tgt o' h = tgt o h:=by
 cases h with
 | p x=>cases x <;> rfl
 | ref id n=>rfl
 | ptr id off=>simp only [tgt];rw [ho id (by simp [HV.ids])]
 | eptr id n i j=>simp only [tgt];rw [ho id (by simp [HV.ids])]
 | win id n i m=>rfl
 | clo g k caps=>rfl
 | row id i k=>rfl
 | rptr id i k r j=>simp only [tgt];rw [ho id (by simp [HV.ids])]
 | pin id n ad cap=>rfl
theorem tq {places:List (Nat × Nat)}:∀ {parts:List (Nat × Operand)} {cells:List HV},(∀ x ∈ parts.map (·.2),e' x = e x) → fv e' places cells parts = fv e places cells parts
 | [],_,_=>rfl
 | (i,x) :: r,cells,h=>by
  have hx:=h x (by simp)
  have ih:∀ cells,fv e' places cells r = fv e places cells r:=fun cells=>tq fun y hy=>h y (by simp at hy ⊢;exact .inr hy)
  simp only [fv,hx,ih]
theorem a00:∀ {l:List Operand},(∀ x ∈ l,e' x = e x) → ta e' l = ta e l
 | [],_=>rfl
 | x :: l,h=>by
  simp only [ta]
  rw [h x (by simp),a00 fun y hy=>h y (by simp [hy])]
theorem zw:∀ {l:List Operand},(∀ x ∈ l,e' x = e x) → t6 e' l = t6 e l
 | [],_=>rfl
 | x :: l,h=>by
  simp only [t6]
  rw [h x (by simp),zw fun y hy=>h y (by simp [hy])]
theorem jt {x:Option Operand} (h:∀ y ∈ x.toList,e' y = e y):gi e' x = gi e x:=by
 cases x with
 | none=>rfl
 | some y=>simp only [gi];rw [h y (by simp)]
theorem a22 {b:Builtin} {args:List Operand} {tys:List TypeId} (h:∀ x ∈ args,e' x = e x):nb E e' b args tys = nb E e b args tys:=by
 unfold nb
 split
 · rename_i x t r
   rw [h x (by simp)]
 · rename_i x y
   rw [h x (by simp),h y (by simp)]
 · rename_i x y
   rw [h x (by simp),h y (by simp)]
 rfl
theorem a8u {h:HV} (ho:∀ k ∈ h.ids,o' k = o k):xv o' h = xv o h:=by
 cases h with
 | ref id n=>simp only [xv];rw [ho id (by simp [HV.ids])]
 | win id n i m=>simp only [xv];rw [ho id (by simp [HV.ids])]
 | row id i k=>simp only [xv];rw [ho id (by simp [HV.ids])]
 | _=>rfl
theorem a8y {h:HV} {n:Nat} {i:Int} (ho:∀ k ∈ h.ids,o' k = o k):a0l o' n i h = a0l o n i h:=by
 cases h with
 | ref id n=>simp only [a0l];rw [ho id (by simp [HV.ids])]
 | win id n i m=>simp only [a0l];rw [ho id (by simp [HV.ids])]
 | row id i k=>simp only [a0l];rw [ho id (by simp [HV.ids])]
 | p x=>cases x <;> rfl
 | _=>rfl
theorem a4q {h:HV} {n:Nat} {x y z:Option Int} (ho:∀ k ∈ h.ids,o' k = o k):t0 o' n x y z h = t0 o n x y z h:=by
 cases h with
 | ref id n=>simp only [t0];rw [ho id (by simp [HV.ids])]
 | win id n i m=>simp only [t0];rw [ho id (by simp [HV.ids])]
 | _=>rfl
theorem a3l {x:Operand} {l:List Operand} {F:aw → HV → Option Out} {α:Type} {d:α} {G:Option Out → α} (hF:∀ h:HV,(∀ k ∈ h.ids,o' k = o k) → F o' h = F o h) (hl:x ∈ l) (ho:∀ k ∈ d6 e l,o' k = o k) :
 (match e x with | some (.v (.one h))=>G (F o' h) | _=>d) = (match e x with | some (.v (.one h))=>G (F o h) | _=>d):=by
 cases hex:e x with
 | none=>rfl
 | some r =>
  cases r with
  | tup l=>rfl
  | v cc =>
   cases cc with
   | agg l=>rfl
   | one h =>
    dsimp only
    rw [hF h fun k hk=>ho k (ef hex hl k hk)]
theorem a2u {b:Builtin} {args:List Operand} {tys:List TypeId} (h:∀ x ∈ args,e' x = e x) (ho:∀ k ∈ d6 e args,o' k = o k):o7 E o' e' b args tys = o7 E o e b args tys:=by
 unfold o7
 split
 · rename_i x t r
   rw [h x (by simp)]
   cases E t with
   | none=>rfl
   | some ti =>
    dsimp only
    cases ti.k <;> try rfl
    exact a3l (G:=id) (F:=xv) (fun h hh=>a8u hh) (by simp) ho
 rfl
theorem a6o {x:Operand} (ho:∀ k ∈ d6 e [x],o' k = o k):mh o' e x = mh o e x:=by
 unfold mh
 cases hex:e x with
 | none=>rfl
 | some r =>
  cases r with
  | tup l=>rfl
  | v cc =>
   cases cc with
   | agg l=>rfl
   | one h =>
    have:=tl (o:=o) (o':=o') (h:=h) (fun k hk=>ho k (ef hex (by simp) k hk))
    cases h with
    | p x=>cases x <;> rfl
    | ref id n=>rfl
    | ptr id off=>dsimp only;rw [this]
    | eptr id n i j=>dsimp only;rw [this]
    | win id n i m=>rfl
    | clo g k caps=>rfl
    | row id i k=>rfl
    | rptr id i k r j=>dsimp only;rw [this]
    | pin id n ad cap=>rfl
theorem a4j {t:TypeId} {x:Operand} (ho:∀ k ∈ d6 e [x],o' k = o k):jn E o' e t x = jn E o e t x:=by
 unfold jn
 cases E t with
 | none=>rfl
 | some i =>
  dsimp only
  cases hex:e x with
  | none=>rfl
  | some r =>
   cases r with
   | tup l=>rfl
   | v cc =>
    cases cc with
    | agg l=>rfl
    | one h =>
     dsimp only
     rw [tl (o:=o) (o':=o') (h:=h) (fun k hk=>ho k (ef hex (by simp) k hk))]
theorem zd {t:TypeId} {x:Operand} {k:Nat} (ho:∀ k ∈ d6 e [x],o' k = o k):f3 E o' e t x k = f3 E o e t x k:=by
 unfold f3
 cases E t with
 | none=>rfl
 | some i =>
  dsimp only
  cases i.k <;> try rfl
  rename_i fs
  dsimp only
  cases fs[k]? with
  | none=>rfl
  | some q =>
   obtain ⟨off,ft,bl⟩:=q
   dsimp only
   cases E ft with
   | none=>rfl
   | some fi =>
    dsimp only
    cases hex:e x with
    | none=>rfl
    | some r =>
     cases r with
     | tup l=>rfl
     | v cc =>
      cases cc with
      | agg l=>rfl
      | one h =>
       dsimp only
       rw [tl (o:=o) (o':=o') (h:=h) (fun k hk=>ho k (ef hex (by simp) k hk))]
theorem a09 {len:Nat} {el:TypeId} {x i:Operand} (ho:∀ k ∈ d6 e [x],o' k = o k):jy E o' e len el x i = jy E o e len el x i:=by
 unfold jy
 cases E el with
 | none=>rfl
 | some ei =>
  dsimp only
  cases hex:e x with
  | none=>rfl
  | some r =>
   cases r with
   | tup l=>rfl
   | v cc =>
    cases cc with
    | agg l=>rfl
    | one h =>
     dsimp only
     rw [tl (o:=o) (o':=o') (h:=h) (fun k hk=>ho k (ef hex (by simp) k hk))]
theorem zf {t:TypeId} {x i:Operand} (ho:∀ k ∈ d6 e [x],o' k = o k):fh E o' e t x i = fh E o e t x i:=by
 unfold fh
 cases E t with
 | none=>rfl
 | some ii =>
  dsimp only
  cases ii.k <;> try rfl
  case array len el=>exact a09 ho
  rename_i el
  dsimp only
  cases E el with
  | none=>rfl
  | some ei =>
   dsimp only
   cases hex:e x with
   | none=>rfl
   | some r =>
    cases r with
    | tup l=>rfl
    | v cc =>
     cases cc with
     | agg l=>rfl
     | one h =>
      dsimp only
      have:=fun iv=>a8y (o:=o) (o':=o') (h:=h) (n:=ei.size) (i:=iv) (fun k hk=>ho k (ef hex (by simp) k hk))
      simp only [this]
theorem a76 {h:HV} {kk:KK} {m:MK} {z:Value} {cm:Bool} (ho:∀ k ∈ h.ids,o' k = o k):a16 o' kk m z cm h = a16 o kk m z cm h:=by
 cases h with
 | ref id n=>simp only [a16];rw [ho id (by simp [HV.ids])]
 | p y=>cases y <;> rfl
 | _=>rfl
theorem a3a {t:TypeId} {x i:Operand} {cm:Bool} (ho:∀ k ∈ d6 e [x],o' k = o k):io E o' e t x i cm = io E o e t x i cm:=by
 unfold io
 cases E t with
 | none=>rfl
 | some ii =>
  dsimp only
  cases ii.k <;> try rfl
  rename_i kt et
  dsimp only
  cases a4c E kt et with
  | none=>rfl
  | some q =>
   obtain ⟨kk,z⟩:=q
   dsimp only
   cases hex:e x with
   | none=>rfl
   | some r =>
    cases r with
    | tup l=>rfl
    | v cc =>
     cases cc with
     | agg l=>rfl
     | one h =>
      dsimp only
      have:=fun m=>a76 (o:=o) (o':=o') (h:=h) (kk:=kk) (m:=m) (z:=z) (cm:=cm) (fun k hk=>ho k (ef hex (by simp) k hk))
      simp only [this]
theorem a47 {h:HV} {op:BinOp} (ho:∀ k ∈ h.ids,o' k = o k):uk o' op h = uk o op h:=by
 cases h with
 | ptr id n=>simp only [uk];rw [ho id (by simp [HV.ids])]
 | p x=>cases x with
  | raw v=>cases v <;> rfl
  | _=>rfl
 | _=>rfl
theorem a2l {op:BinOp} {t:TypeId} {x y:Operand} (ho:∀ k ∈ d6 e [x],o' k = o k):iu E o' e op t x y = iu E o e op t x y:=by
 unfold iu
 split <;> try rfl
 cases E t with
 | none=>rfl
 | some ii =>
  dsimp only
  cases ii.k <;> try rfl
  dsimp only
  cases hex:e x with
  | none=>rfl
  | some r =>
   cases r with
   | tup l=>rfl
   | v cc =>
    cases cc with
    | agg l=>rfl
    | one h=>exact a47 (fun k hk=>ho k (ef hex (by simp) k hk))
theorem acz {op:Op} (hx:∀ x ∈ op.operands,e' x = e x) (ho:∀ k ∈ d6 e op.operands.toList,o' k = o k):hq E ex o' e' op = hq E ex o e op:=by
 cases op <;> try rfl
 case move x=>show Option.map _ (e' x) = Option.map _ (e x);rw [hx x (by simp [Op.operands])]
 case assign x=>show Option.map _ (e' x) = Option.map _ (e x);rw [hx x (by simp [Op.operands])]
 case pick c x y =>
  show v3 e' c x y = v3 e c x y
  unfold v3
  rw [hx c (by simp [Op.operands]),hx x (by simp [Op.operands]),hx y (by simp [Op.operands])]
 case nilCheck x =>
  show mh o' e' x = mh o e x
  have h1:mh o' e' x = mh o' e x:=by unfold mh;rw [hx x (by simp [Op.operands])]
  rw [h1]
  exact a6o (by simpa [Op.operands] using ho)
 case load t x =>
  show jn E o' e' t x = jn E o e t x
  have h1:jn E o' e' t x = jn E o' e t x:=by unfold jn;rw [hx x (by simp [Op.operands])]
  rw [h1]
  exact a4j (by simpa [Op.operands] using ho)
 case fieldAddr t x k =>
  show f3 E o' e' t x k = f3 E o e t x k
  have h1:f3 E o' e' t x k = f3 E o' e t x k:=by unfold f3;rw [hx x (by simp [Op.operands])]
  rw [h1]
  exact zd (by simpa [Op.operands] using ho)
 case field t x k =>
  show qx E e' t x k = qx E e t x k
  unfold qx
  rw [hx x (by simp [Op.operands])]
 case indexAddr t x i =>
  show fh E o' e' t x i = fh E o e t x i
  have h1:fh E o' e' t x i = fh E o' e t x i:=by unfold fh jy;rw [hx x (by simp [Op.operands]),hx i (by simp [Op.operands])]
  rw [h1]
  refine zf fun k hk=>ho k ?_
  simp only [d6,Op.operands,List.append_nil] at hk ⊢
  exact List.mem_append_left _ hk
 case lookup t x i cm =>
  show io E o' e' t x i cm = io E o e t x i cm
  have h1:io E o' e' t x i cm = io E o' e t x i cm:=by unfold io;rw [hx x (by simp [Op.operands]),hx i (by simp [Op.operands])]
  rw [h1]
  refine a3a fun k hk=>ho k ?_
  simp only [d6,Op.operands,List.append_nil] at hk ⊢
  exact List.mem_append_left _ hk
 case index t x i =>
  show qw E e' t x i = qw E e t x i
  unfold qw
  rw [hx x (by simp [Op.operands]),hx i (by simp [Op.operands])]
 case binOp op t x y ty =>
  have h1:yq E ex e' op t x y = yq E ex e op t x y:=by
   unfold yq
   rw [hx x (by simp [Op.operands]),hx y (by simp [Op.operands])]
  have h2:oe E e' op t x y = oe E e op t x y:=by
   unfold oe
   rw [hx x (by simp [Op.operands])]
  have h3:iu E o' e' op t x y = iu E o e op t x y:=by
   have h1:iu E o' e' op t x y = iu E o' e op t x y:=by unfold iu;rw [hx x (by simp [Op.operands])]
   rw [h1]
   refine a2l fun k hk=>ho k ?_
   simp only [d6,Op.operands,List.append_nil] at hk ⊢
   exact List.mem_append_left _ hk
  simp only [hq]
  rw [h1,h2,h3]
 case unOp op t x =>
  show a32 ex e' op x = a32 ex e op x
  unfold a32
  rw [hx x (by simp [Op.operands])]
 case convert src dst x =>
  show uz E ex e' src dst x = uz E ex e src dst x
  unfold uz
  rw [hx x (by simp [Op.operands])]
 case extract x i =>
  show mt e' x i = mt e x i
  unfold mt
  rw [hx x (by simp [Op.operands])]
 case slice t x lo hi mx =>
  have e0:=hx x (by simp [Op.operands])
  have e1:=jt (e:=e) (e':=e') (x:=lo) (fun y hy=>hx y (by simp [Op.operands];simp at hy;simp [hy]))
  have e2:=jt (e:=e) (e':=e') (x:=hi) (fun y hy=>hx y (by simp [Op.operands];simp at hy;simp [hy]))
  have e3:=jt (e:=e) (e':=e') (x:=mx) (fun y hy=>hx y (by simp [Op.operands];simp at hy;simp [hy]))
  have h1:j5 E e' t x lo hi mx = j5 E e t x lo hi mx:=by
   unfold j5
   rw [e0,e1,e2,e3]
  have h2:z9 E o' e' t x lo hi mx = z9 E o e t x lo hi mx:=by
   unfold z9
   rw [e0,e1,e2,e3]
   cases E t with
   | none=>rfl
   | some ti =>
    dsimp only
    cases ti.k <;> try rfl
    rename_i el
    dsimp only
    cases E el with
    | none=>rfl
    | some ei =>
     dsimp only
     cases gi e lo with
     | none=>rfl
     | some l =>
      cases gi e hi with
      | none=>rfl
      | some hh =>
       cases gi e mx with
       | none=>rfl
       | some m =>
        dsimp only
        exact a3l (G:=id) (F:=fun o h=>t0 o ei.size l hh m h) (fun h hh=>a4q hh) (l:=(Op.slice t x lo hi mx).operands.toList) (by simp [Op.operands]) ho
  simp only [hq]
  rw [h1,h2]
 case makeFunc fn first caps =>
  show v5 e' fn first.toList caps.toList = v5 e fn first.toList caps.toList
  unfold v5
  rw [a00 (l:=caps.toList) (fun y hy=>hx y (by simp [Op.operands];simp at hy;exact .inr hy)),zw (l:=caps.toList) (fun y hy=>hx y (by simp [Op.operands];simp at hy;exact .inr hy))]
  split
  · rfl
  · rename_i f x hf
    rw [hx x (by simp [Op.operands];left;rw [← Array.mem_toList_iff,hf];simp)]
  rfl
 case build t parts =>
  show qv E e' t parts.toList = qv E e t parts.toList
  have hf:∀ places cells,fv e' places cells parts.toList = fv e places cells parts.toList:=fun places cells=>tq fun x hm=>hx x (by simpa [Op.operands] using hm)
  unfold qv
  simp only [hf]
 case call c =>
  simp only [hq]
  cases hc:c.callee with
  | value f=>rfl
  | invoke r m=>rfl
  | builtin b =>
   simp only [Op.operands,Call.operands,hc] at hx ho
   have h1:∀ x ∈ c.args.toList,e' x = e x:=fun x hm=>hx x (by simpa using hm)
   have h2:∀ k ∈ d6 e c.args.toList,o' k = o k:=fun k hk=>ho k (by simpa using hk)
   dsimp only
   rw [a22 h1,a2u h1 h2]
theorem acy {op:Op} {id:Nat} (hx:∀ x ∈ op.operands,e' x = e x):ha E e' id op = ha E e id op:=by
 cases op <;> simp only [ha] <;> simp only [Op.operands] at hx
 case box t x=>rw [hx x (by simp)]
 case buildSlice t n parts =>
  have hf:∀ sz cells,za e' sz n parts.toList cells = za e sz n parts.toList cells:=fun sz cells=>by
   unfold za
   exact tq fun x hm=>hx x (by simpa using hm)
  simp only [hf]
 case makeSlice t l c=>rw [hx l (by simp),hx c (by simp)]
theorem a43 {t:TypeId} {x y:Operand} (ho:∀ k ∈ d6 e [x,y],o' k = o k):j4 E o' e t x y = j4 E o e t x y:=by
 unfold j4
 cases E t with
 | none=>rfl
 | some i =>
  cases hv:e y with
  | none=>rfl
  | some rv =>
   cases rv with
   | tup l=>rfl
   | v cv =>
    cases hex:e x with
    | none=>rfl
    | some r =>
     cases r with
     | tup l=>rfl
     | v cc =>
      cases cc with
      | agg l=>rfl
      | one h =>
       cases h with
       | p x=>cases x <;> rfl
       | ref id n=>rfl
       | ptr id off=>dsimp only;rw [ho id (ef hex (by simp) id (by simp [HR.ids,HC.ids,HV.ids]))]
       | eptr id n r j=>dsimp only;rw [ho id (ef hex (by simp) id (by simp [HR.ids,HC.ids,HV.ids]))]
       | win id n i m=>rfl
       | clo g k caps=>rfl
       | row id i k=>rfl
       | rptr id i k r j=>dsimp only;rw [ho id (ef hex (by simp) id (by simp [HR.ids,HC.ids,HV.ids]))]
       | pin id n ad cap=>rfl
theorem a6e {h:HV} {kk:KK} {m:MK} {y:PV} (ho:∀ k ∈ h.ids,o' k = o k):xz o' kk m y h = xz o kk m y h:=by
 cases h with
 | ref id n=>simp only [xz];rw [ho id (by simp [HV.ids])]
 | _=>rfl
theorem zx {t:TypeId} {x i v:Operand} (ho:∀ k ∈ d6 e [x],o' k = o k):jg E o' e t x i v = jg E o e t x i v:=by
 unfold jg
 cases E t with
 | none=>rfl
 | some ii =>
  dsimp only
  cases ii.k <;> try rfl
  rename_i kt et
  dsimp only
  cases E kt with
  | none=>rfl
  | some ki =>
   dsimp only
   cases hex:e x with
   | none=>rfl
   | some r =>
    cases r with
    | tup l=>rfl
    | v cc =>
     cases cc with
     | agg l=>rfl
     | one h =>
      dsimp only
      have:=fun kk m y=>a6e (o:=o) (o':=o') (h:=h) (kk:=kk) (m:=m) (y:=y) (fun k hk=>ho k (ef hex (by simp) k hk))
      simp only [this]
theorem a5q {op:Op} (hx:∀ x ∈ op.operands,e' x = e x) (ho:∀ k ∈ d6 e op.operands.toList,o' k = o k):hs E o' e' op = hs E o e op:=by
 cases op <;> try rfl
 case mapUpdate t x i v =>
  show jg E o' e' t x i v = jg E o e t x i v
  have h1:jg E o' e' t x i v = jg E o' e t x i v:=by unfold jg;rw [hx x (by simp [Op.operands]),hx i (by simp [Op.operands]),hx v (by simp [Op.operands])]
  rw [h1]
  refine zx fun k hk=>ho k ?_
  simp only [d6,Op.operands,List.append_nil] at hk ⊢
  exact List.mem_append_left _ hk
 case insert t x i v =>
  show jg E o' e' t x i v = jg E o e t x i v
  have h1:jg E o' e' t x i v = jg E o' e t x i v:=by unfold jg;rw [hx x (by simp [Op.operands]),hx i (by simp [Op.operands]),hx v (by simp [Op.operands])]
  rw [h1]
  refine zx fun k hk=>ho k ?_
  simp only [d6,Op.operands,List.append_nil] at hk ⊢
  exact List.mem_append_left _ hk
 case store t addr v =>
  show j4 E o' e' t addr v = j4 E o e t addr v
  have h1:j4 E o' e' t addr v = j4 E o' e t addr v:=by unfold j4;rw [hx addr (by simp [Op.operands]),hx v (by simp [Op.operands])]
  rw [h1]
  exact a43 (by simpa [Op.operands] using ho)
theorem zz {id:Nat} {h:HV} (ho:∀ k ∈ h.ids,o' k = o k):ql o' id h = ql o id h:=by
 cases h with
 | p x =>
  cases x with
  | raw v =>
   cases v with
   | slice a n c=>cases n <;> rfl
   | _=>rfl
  | _=>rfl
 | ref id' n=>simp only [ql];rw [ho id' (by simp [HV.ids])]
 | _=>rfl
theorem uc {id n:Nat} {wb:Bool} {el:TypeId} {y:HV} (hid:o' id = o id) (ho:∀ k ∈ y.ids,o' k = o k):mj E o' id n wb el y = mj E o id n wb el y:=by
 simp only [mj]
 rw [hid,zz ho]
theorem a26 {id:Nat} {h:HV} (ho:∀ k ∈ h.ids,o' k = o k):x7 o' id h = x7 o id h:=by
 simp only [x7]
 rw [zz ho]
 cases h with
 | ref id' n=>simp only;rw [ho id' (by simp [HV.ids])]
 | _=>rfl
theorem a5x {id n:Nat} {el:TypeId} {y:HV} (hid:o' id = o id) (ho:∀ k ∈ y.ids,o' k = o k):su E o' id n el y = su E o id n el y:=by
 simp only [su]
 rw [hid,a26 ho]
theorem a8n {id n:Nat} {el:TypeId} {y:HV} (hid:o' id = o id) (ho:∀ k ∈ y.ids,o' k = o k):a0h E o' id n el y = a0h E o id n el y:=by
 simp only [a0h]
 rw [hid,a26 ho]
theorem a78 {el:TypeId} {id n i k:Nat} {y:HV} (hid:o' id = o id):vt E o' el id n i k y = vt E o el id n i k y:=by
 unfold vt
 rw [hid]
theorem a8g {h:HV} {z:List Value} {n:Nat} (ho:∀ k ∈ h.ids,o' k = o k):a2n o' z n h = a2n o z n h:=by
 cases h with
 | win id n i m=>simp only [a2n];rw [ho id (by simp [HV.ids])]
 | _=>rfl
theorem a72 {id:Nat} {wb:Bool} {el:TypeId} {hy hx:HV} (h1:∀ k ∈ hx.ids,o' k = o k) (h2:∀ k ∈ hy.ids,o' k = o k):qf E o' id wb el hy hx = qf E o id wb el hy hx:=by
 cases hx with
 | win id1 n i k =>
  simp only [qf]
  exact a78 (h1 id1 (by simp [HV.ids]))
 | pin id1 n ad cap =>
  simp only [qf]
  rw [uc (o:=o) (o':=o') (h1 id1 (by simp [HV.ids])) h2]
 | ref id1 n =>
  simp only [qf]
  rw [uc (o:=o) (o':=o') (h1 id1 (by simp [HV.ids])) h2,a5x (o:=o) (o':=o') (h1 id1 (by simp [HV.ids])) h2,a8n (o:=o) (o':=o') (h1 id1 (by simp [HV.ids])) h2]
 | p px =>
  cases px with
  | sl n sz cl f =>
   cases cl with
   | false=>rfl
   | true =>
    simp only [qf]
    cases E el with
    | none=>rfl
    | some ei =>
     dsimp only
     rw [uc (o:=fun k=>if k = id then some (af.arr false ei.size el n f) else o k) (o':=fun k=>if k = id then some (af.arr false ei.size el n f) else o' k) (by simp) (fun k hk=>by
      try dsimp only
      split
      · rfl
      exact h2 k hk)]
  | _=>rfl
 | _=>rfl
theorem a6y {id:Nat} {wb:Bool} {t:TypeId} {x y:Option HR} (hx:∀ r,x = some r → ∀ k ∈ r.ids,o' k = o k) (hy:∀ r,y = some r → ∀ k ∈ r.ids,o' k = o k) :
 yp E o' id wb t x y = yp E o id wb t x y:=by
 unfold yp
 cases E t with
 | none=>rfl
 | some i =>
  dsimp only
  cases i.k <;> try rfl
  rename_i el
  cases x with
  | none=>rfl
  | some rx =>
   cases rx with
   | tup l=>rfl
   | v cx =>
    cases cx with
    | agg l=>rfl
    | one hxv =>
     cases y with
     | none=>rfl
     | some ry =>
      cases ry with
      | tup l=>rfl
      | v cy =>
       cases cy with
       | agg l=>rfl
       | one hyv=>exact a72 (hx _ rfl) (hy _ rfl)
theorem aaq {op:Op} {id:Nat} {wb:Bool} (hx:∀ x ∈ op.operands,e' x = e x) (ho:∀ k ∈ d6 e op.operands.toList,o' k = o k):hap E o' e' id wb op = hap E o e id wb op:=by
 cases op <;> try rfl
 case call c =>
  unfold hap
  dsimp only
  split
  · rename_i hc
    simp only [Op.operands,Call.operands,hc] at hx ho
    have h1:∀ x ∈ c.args.toList,e' x = e x:=fun x hm=>hx x (by simpa using hm)
    have h2:∀ k ∈ d6 e c.args.toList,o' k = o k:=fun k hk=>ho k (by simpa using hk)
    generalize c.args.toList = l at h1 h2
    unfold z1
    split
    · rename_i x y t t' _
      split
      · rw [h1 x (by simp),h1 y (by simp)]
        exact a6y (fun r hr k hk=>h2 k (ef hr (by simp) k hk)) (fun r hr k hk=>h2 k (ef hr (by simp) k hk))
      rfl
    rfl
  · rename_i hc
    simp only [Op.operands,Call.operands,hc] at hx ho
    have h1:∀ x ∈ c.args.toList,e' x = e x:=fun x hm=>hx x (by simpa using hm)
    have h2:∀ k ∈ d6 e c.args.toList,o' k = o k:=fun k hk=>ho k (by simpa using hk)
    generalize c.args.toList = l at h1 h2
    unfold se
    split
    · rename_i x t _
      rw [h1 x (by simp)]
      cases E t with
      | none=>rfl
      | some ti =>
       dsimp only
       cases ti.k <;> try rfl
       rename_i el
       dsimp only
       cases E el with
       | none=>rfl
       | some ei =>
        dsimp only
        cases ei.zero with
        | none=>rfl
        | some z =>
         dsimp only
         split
         · cases hex:e x with
           | none=>rfl
           | some r =>
            cases r with
            | tup l=>rfl
            | v cc =>
             cases cc with
             | agg l=>rfl
             | one hv=>exact a8g fun k hk=>h2 k (ef hex (by simp) k hk)
         rfl
    rfl
  rfl
theorem zj {h:HV} (ho:∀ k ∈ h.ids,o' k = o k):vn o' h = vn o h:=by
 cases h with
 | ref id n=>simp only [vn];rw [ho id (by simp [HV.ids])]
 | _=>rfl
end
end
end Go.Hx

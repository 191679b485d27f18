/- A part of the proof: Hx10 Hx11. -/
import Derived.OrdersIn
import Derived.RangeFuncCalls
import Derived.RangeFuncNested
import Derived.Test.YtidophngianjiaaDoorDx08
set_option linter.all false
section
namespace Go.Hx
open Go.RowKit
def ao (P:Program) (f:FuncId) (args:List PC) (res:PR):Prop :=
 ∀ (w:World) (imm:Imm) (us:List Value),lq imm → (∀ b ob,imm b = some ob → w.heap[b]? = some ob) → bq imm args us →
  Calls P f us.toArray w fun e w'=>∃ v imm',e = .returned v ∧ kj imm' res v ∧ (∀ b,b < w.heap.size → imm' b = imm b) ∧ (∀ b ob,imm' b = some ob → w'.heap[b]? = some ob) ∧ Below w.heap.size w w'
def uz (o:aq):HV → Option (Prop × PV × Bool)
 | .p x=>some (True,x,false)
 | .ref id n =>
  match o id with
  | some (.arr _ s _ n' f)=>some (n' = n, .sl n s false f,true)
  | _=>none
 | _=>none
def oe (o:aq):List HV → Option (Prop × List PV × Bool)
 | []=>some (True,[],false)
 | x :: r =>
  match uz o x,oe o r with
  | some (p,y,b),some (q,ys,b')=>some (p ∧ q,y :: ys,b || b')
  | _,_=>none
def xg (o:aq):HV → Option (Prop × PV × Bool)
 | .ptr id off =>
  match o id with
  | some (.box l) =>
   match oe o (l.drop off) with
   | some (p,ys,_)=>some (p, .vp ys.length fun j=>ys.getD j .any,true)
   | none=>none
  | _=>none
 | h=>uz o h
def rj (o:aq):HC → Option (Prop × PC × Bool)
 | .one h=>match xg o h with | some (p,y,b)=>some (p, .one y,b) | none=>none
 | .agg l=>match oe o l with | some (p,ys,b)=>some (p, .agg ys,b) | none=>none
def fy (o:aq) (e:Ev):List Operand → Option (Prop × List PC × Bool)
 | []=>some (True,[],false)
 | x :: r =>
  match e x,fy o e r with
  | some (.v cc),some (q,ys,b')=>match rj o cc with | some (p,y,b)=>some (p ∧ q,y :: ys,b || b') | none=>none
  | _,_=>none
def i9 (caps:Nat → PV):Nat → Nat → List PC
 | 0,_=>[]
 | n + 1,i=>.one (caps i) :: i9 caps n (i + 1)
def PV.flat:PV → Bool
 | .raw _=>true
 | .any=>true
 | _=>false
def a4z:List PV → Bool
 | []=>true
 | x :: r=>x.flat && a4z r
def PC.flat:PC → Bool
 | .one x=>x.flat
 | .agg l=>a4z l
def a1s:List PC → Bool
 | []=>true
 | x :: r=>x.flat && a1s r
def PR.flat:PR → Bool
 | .v x=>x.flat
 | .tup l=>a1s l
theorem b5.flat {m m':Imm} {x:PV} {u:Value} (hf:x.flat = true) (h:b5 m x u):b5 m' x u:=by
 cases x <;> simp [PV.flat] at hf <;> exact h
theorem d9.flat {m m':Imm}:∀ {xs:List PV} {us:List Value},a4z xs = true → d9 m xs us → d9 m' xs us
 | [],[],_,_=>trivial
 | _ :: _,_ :: _,hf,h=>by
  simp only [a4z,Bool.and_eq_true] at hf
  exact ⟨h.1.flat hf.1,d9.flat hf.2 h.2⟩
 | [],_ :: _,_,h=>h.elim
 | _ :: _,[],_,h=>h.elim
theorem go.flat {m m':Imm} {x:PC} {u:Value} (hf:x.flat = true) (h:go m x u):go m' x u:=by
 cases x with
 | one x=>exact b5.flat hf h
 | agg l=>obtain ⟨us,e,hl⟩:=h;exact ⟨us,e,hl.flat hf⟩
theorem bq.flat {m m':Imm}:∀ {xs:List PC} {us:List Value},a1s xs = true → bq m xs us → bq m' xs us
 | [],[],_,_=>trivial
 | _ :: _,_ :: _,hf,h=>by
  simp only [a1s,Bool.and_eq_true] at hf
  exact ⟨h.1.flat hf.1,bq.flat hf.2 h.2⟩
 | [],_ :: _,_,h=>h.elim
 | _ :: _,[],_,h=>h.elim
theorem kj.flat {m m':Imm} {x:PR} {u:Value} (hf:x.flat = true) (h:kj m x u):kj m' x u:=by
 cases x with
 | v x=>exact go.flat hf h
 | tup l=>obtain ⟨us,e,hl⟩:=h;exact ⟨us,e,hl.flat hf⟩
def d3 (w:World):Imm:=fun b=>w.heap[b]?
section
variable {P:Program} {E:Env} {w0:World} {nt:Nat} {c:Ctx} {s:S} {a:Act} {w:World}
structure p8 (w0:World) (c:Ctx) (w:World) (m:Imm):Prop where
 le:Imm.le c.imm m
 new:∀ b,c.frm b = none → b < w.heap.size → m b = w.heap[b]?
theorem tn (h:aj w0 nt c s a w):Imm.le c.imm (d3 w):=fun b ob hb=>h.imm b ob hb
theorem ahf (h:aj w0 nt c s a w):p8 w0 c w (d3 w):=⟨tn h,fun _ _ _=>rfl⟩
theorem zj {m:Imm} (hm:p8 w0 c w m) {b off:Nat} {x:Value} (hb:c.frm b = none) (hc:w.cell? ⟨b,off,none⟩ = some x):fu m b off = some x:=by
 have hlt:=World.block_lt_of_cell? w _ hc
 unfold World.cell? at hc
 unfold fu
 rw [hm.new b hb hlt]
 dsimp only at hc
 split at hc
 · rename_i cs e fr hb
   rw [hb]
   simpa using hc
 · cases hc
theorem yx (h:aj w0 nt c s a w) {m:Imm} (hm:p8 w0 c w m) {x:HV} {u:Value} (hu:b4 c s.o x u) {p:Prop} {y:PV} {b:Bool} (hv:uz s.o x = some (p,y,b)) (hp:p) :
 b5 m y u ∧ (b = false → b5 c.imm y u):=by
 unfold uz at hv
 split at hv
 · simp only [Option.some.injEq,Prod.mk.injEq] at hv
   obtain ⟨_,rfl,rfl⟩:=hv
   exact ⟨b5.mono hm.le hu,fun _=>hu⟩
 · rename_i id n
   split at hv <;> try (cases hv;done)
   rename_i wr sz e n' f ho
   simp only [Option.some.injEq,Prod.mk.injEq] at hv
   obtain ⟨rfl,rfl,rfl⟩:=hv
   obtain rfl:n' = n:=hp
   refine ⟨?_,fun hb=>by cases hb⟩
   obtain ⟨_,_,h3⟩:=hu
   have hown:=(h3 _ _ _ _ ho rfl).2 rfl
   obtain ⟨h0,h1,h5⟩:=h.objs id _ ho
   rcases h5 with ⟨h6,xs,h2,h4⟩ | ⟨h6,h7,h8⟩
   · rcases h2.2 with ⟨hv,hz⟩ | ⟨g,cap,cur,hv,hbase,hheap,hcap,hmax,hcs,htake⟩
     · exact ⟨none,0,by rw [hown,hv,hz],by omega,by simp [maxLen],(fun hh=>by cases hh),fun hn=>by omega⟩
     · refine ⟨_,cap,by rw [hown,hv],hcap,hmax,(fun hh=>by cases hh),fun hn=>⟨g,0,rfl,fun i j hi hj=>?_⟩⟩
       obtain ⟨x,hx,hr⟩:=h4 i j hi hj
       have:=h2.cells (g:=g) (by rw [hv];rfl) _ _ hx
       rw [br] at this
       exact ⟨x,zj hm (h.fsep id _ g ho (by rw [h6,hv];rfl)) this,b5.mono hm.le hr⟩
   · obtain ⟨ad,cap,q1,q2,q3,q4,q5⟩:=b5.mono hm.le h8
     rw [hown]
     exact ⟨ad,cap,q1,q2,q3,(fun hh=>by cases hh),q5⟩
 · cases hv
theorem sb (h:aj w0 nt c s a w) {m:Imm} (hm:p8 w0 c w m):∀ {xs:List HV} {us:List Value} (_:ax c s.o xs us) {p:Prop} {ys:List PV} {b:Bool} (_:oe s.o xs = some (p,ys,b)) (_:p),
 d9 m ys us ∧ (b = false → d9 c.imm ys us)
 | [],[],_,p,ys,b,hv,_=>by
  simp only [oe,Option.some.injEq,Prod.mk.injEq] at hv
  obtain ⟨_,rfl,_⟩:=hv
  exact ⟨trivial,fun _=>trivial⟩
 | x :: xs,u :: us,hu,p,ys,b,hv,hp=>by
  simp only [oe] at hv
  split at hv <;> try (cases hv;done)
  rename_i p1 y1 b1 p2 ys2 b2 h1 h2
  simp only [Option.some.injEq,Prod.mk.injEq] at hv
  obtain ⟨rfl,rfl,rfl⟩:=hv
  obtain ⟨q1,q2⟩:=yx h hm hu.1 h1 hp.1
  obtain ⟨q3,q4⟩:=sb h hm hu.2 h2 hp.2
  exact ⟨⟨q1,q3⟩,fun hb=>by
   rw [Bool.or_eq_false_iff] at hb
   exact ⟨q2 hb.1,q4 hb.2⟩⟩
 | [],_ :: _,hu,_,_,_,_,_=>hu.elim
 | _ :: _,[],hu,_,_,_,_,_=>hu.elim
theorem a8w (h:aj w0 nt c s a w) {m:Imm} (hm:p8 w0 c w m) {x:HV} {u:Value} (hu:b4 c s.o x u) {p:Prop} {y:PV} {b:Bool} (hv:xg s.o x = some (p,y,b)) (hp:p) :
 b5 m y u ∧ (b = false → b5 c.imm y u):=by
 unfold xg at hv
 split at hv
 · rename_i id off
   split at hv <;> try (cases hv;done)
   rename_i l hl
   split at hv <;> try (cases hv;done)
   rename_i q ys bb hvl
   simp only [Option.some.injEq,Prod.mk.injEq] at hv
   obtain ⟨rfl,rfl,rfl⟩:=hv
   refine ⟨?_,fun hb=>by cases hb⟩
   obtain ⟨_,_,h3⟩:=hu
   obtain ⟨bk,hb,rfl⟩:=h3 l hl
   obtain ⟨b',C,e,h1,hblk,h2,h4,h5⟩:=h.objs id _ hl
   rw [hb] at h1
   simp only [Value.pointer.injEq,Option.some.injEq,Addr.mk.injEq,and_true] at h1
   subst h1
   obtain ⟨q1,_⟩:=sb h hm (h5.drop off) hvl hp
   refine ⟨bk,off,rfl,fun j hj=>?_⟩
   obtain ⟨v,hv,hr⟩:=q1.get j ys[j] (List.getElem?_eq_getElem hj)
   refine ⟨v,zj hm (h.fsep id _ bk hl (by rw [hblk];rfl)) ?_,by simpa [List.getD,List.getElem?_eq_getElem hj] using hr⟩
   rw [cell_of_row w bk (off + j) C e (0,0) h4]
   rw [List.getElem?_drop] at hv
   simpa using hv
 · exact yx h hm hu hv hp
theorem z8 (h:aj w0 nt c s a w) {m:Imm} (hm:p8 w0 c w m) {x:HC} {u:Value} (hu:df c s.o x u) {p:Prop} {y:PC} {b:Bool} (hv:rj s.o x = some (p,y,b)) (hp:p) :
 go m y u ∧ (b = false → go c.imm y u):=by
 unfold rj at hv
 split at hv
 · split at hv <;> try (cases hv;done)
   rename_i hvp
   simp only [Option.some.injEq,Prod.mk.injEq] at hv
   obtain ⟨rfl,rfl,rfl⟩:=hv
   exact a8w h hm hu hvp hp
 · split at hv <;> try (cases hv;done)
   rename_i hvl
   simp only [Option.some.injEq,Prod.mk.injEq] at hv
   obtain ⟨rfl,rfl,rfl⟩:=hv
   obtain ⟨us,rfl,hl⟩:=hu
   obtain ⟨q1,q2⟩:=sb h hm hl hvl hp
   exact ⟨⟨us,rfl,q1⟩,fun hb=>⟨us,rfl,q2 hb⟩⟩
theorem sk (h:aj w0 nt c s a w) {m:Imm} (hm:p8 w0 c w m):∀ {xs:List Operand} {p:Prop} {ys:List PC} {b:Bool} (_:fy s.o (ev s) xs = some (p,ys,b)) (_:p),
 bq m ys (xs.map a.eval) ∧ (b = false → bq c.imm ys (xs.map a.eval))
 | [],p,ys,b,hv,_=>by
  simp only [fy,Option.some.injEq,Prod.mk.injEq] at hv
  obtain ⟨_,rfl,_⟩:=hv
  exact ⟨trivial,fun _=>trivial⟩
 | x :: xs,p,ys,b,hv,hp=>by
  simp only [fy] at hv
  split at hv <;> try (cases hv;done)
  rename_i cc q ys2 b2 hx h2
  split at hv <;> try (cases hv;done)
  rename_i p1 y1 b1 h1
  simp only [Option.some.injEq,Prod.mk.injEq] at hv
  obtain ⟨rfl,rfl,rfl⟩:=hv
  obtain ⟨q1,q2⟩:=z8 h hm (ae h hx) h1 hp.1
  obtain ⟨q3,q4⟩:=sk h hm h2 hp.2
  exact ⟨⟨q1,q3⟩,fun hb=>by
   rw [Bool.or_eq_false_iff] at hb
   exact ⟨q2 hb.1,q4 hb.2⟩⟩
theorem pk {m:Imm} {caps:Nat → PV}:∀ (n i:Nat) (cs:List Value),cs.length = i + n → (∀ j,j < i + n → ∃ x,cs[j]? = some x ∧ b5 m (caps j) x) → bq m (i9 caps n i) (cs.drop i)
 | 0,i,cs,hl,_=>by
  rw [List.drop_eq_nil_of_le (by omega)]
  trivial
 | n + 1,i,cs,hl,h=>by
  rw [List.drop_eq_getElem_cons (by omega)]
  obtain ⟨x,hx,hr⟩:=h i (by omega)
  rw [List.getElem?_eq_getElem (by omega)] at hx
  simp only [Option.some.injEq] at hx
  subst hx
  exact ⟨hr,pk n (i + 1) cs (by omega) fun j hj=>h j (by omega)⟩
theorem bq.append {m:Imm}:∀ {xs ys:List PC} {us vs:List Value},bq m xs us → bq m ys vs → bq m (xs ++ ys) (us ++ vs)
 | [],_,[],_,_,h=>h
 | _ :: _,_,_ :: _,_,h,k=>⟨h.1,bq.append h.2 k⟩
 | [],_,_ :: _,_,h,_=>h.elim
 | _ :: _,_,[],_,h,_=>h.elim
end
def HC.ids:HC → List Nat
 | .one h=>h.ids
 | .agg l=>ge l
def uk:List HC → List Nat
 | []=>[]
 | x :: r=>x.ids ++ uk r
def HR.ids:HR → List Nat
 | .v x=>x.ids
 | .tup l=>uk l
def ab.ids:ab → List Nat
 | .mp ..=>[]
 | .box l=>ge l
 | .arr ..=>[]
 | .arrh _ _ _ ms _=>ms
 | .nest _ _ _ _ _ _ (some p)=>[p.1]
 | .nest _ _ _ _ _ _ none=>[]
theorem HC.men_ids {x:HC} {k:Nat} (h:x.men k):k ∈ x.ids:=by
 cases x with
 | one h'=>exact HV.men_ids h
 | agg l=>exact jc h
theorem a41:∀ {l:List HC} {k:Nat},(∃ h ∈ l,h.men k) → k ∈ uk l
 | [],_,⟨_,h,_⟩=>by cases h
 | x :: r,k,⟨h,hm,hk⟩=>by
  rcases List.mem_cons.1 hm with rfl | hm
  · exact List.mem_append_left _ (HC.men_ids hk)
  · exact List.mem_append_right _ (a41 ⟨h,hm,hk⟩)
theorem HR.men_ids {x:HR} {k:Nat} (h:x.men k):k ∈ x.ids:=by
 cases x with
 | v x=>exact HC.men_ids h
 | tup l=>exact a41 h
theorem ab.men_ids {x:ab} {k:Nat} (h:x.men k):k ∈ x.ids:=by
 cases x with
 | mp kk n f=>exact h.elim
 | box l=>exact jc h
 | arr wr s e n f=>exact h.elim
 | arrh s e n ms f=>exact h
 | nest e et es n m g pd=>cases pd with | none=>exact h.elim | some p=>exact List.mem_singleton.2 h
def bw (e:Ev):List Operand → List Nat
 | []=>[]
 | x :: r=>(match e x with | some v=>v.ids | none=>[]) ++ bw e r
structure Ann where
 id:Nat
 wb:Bool
 ex:Bool
 res:PR
 W:List Nat
 N:List Nat
 M:List Nat
def aw (ops:Array Oper) (s:S) (o:Oper):Option Bool :=
 match o.guard with
 | none=>some true
 | some (j,want) =>
  match (ops[j]?).bind (·.dst) with
  | some d=>match s.t d with | some (.v (.one (.p (.raw (.bool b)))))=>some (b == want) | some (.tup [])=>some false | _=>none
  | none=>none
def cg (nt:Nat):Option Tmp → Bool
 | none=>true
 | some d=>decide (d < nt)
def callee (e:Ev) (cl:Call):Option (FuncId × List PC) :=
 match cl.callee with
 | .value f=>match e f with | some (.v (.one (.p (.fn g k caps))))=>some (g,i9 caps k 0) | _=>none
 | _=>none
def a2r (caps:Nat → HV):Nat → Nat → List HC
 | 0,_=>[]
 | n + 1,i=>.one (caps i) :: a2r caps n (i + 1)
def oh (e:Ev) (cl:Call):Option (FuncId × List HC) :=
 match cl.callee with
 | .value f =>
  match e f with
  | some (.v (.one (.p (.fn g k caps))))=>some (g,(i9 caps k 0).map PC.toH)
  | some (.v (.one (.clo g k caps)))=>some (g,a2r caps k 0)
  | _=>none
 | _=>none
def al (P : Program) (f : FuncId) : Prop := ∃ fn, P.funcs[f]? = some fn ∧ (fn.name == "runtime.NumGoroutine") = false ∧ fn.body.isNone = false
theorem S.setW_one (s:S) (id:Nat) (ob:ab):s.setW [(id,some ob)] = s.setO id (some ob):=by
 unfold S.setW S.setO
 simp only [S.mk.injEq,true_and]
 funext k
 by_cases hk:k = id
 · subst hk;simp [dy]
 · have:Nat.beq id k = false:=by
    rw [Bool.eq_false_iff]
    exact fun hb=>hk (Nat.eq_of_beq_eq_true hb).symm
   simp [dy,this,hk]
theorem S.setW_none (s:S) (id:Nat):s.setW [(id,none)] = s.setO id none:=by
 unfold S.setW S.setO
 simp only [S.mk.injEq,true_and]
 funext k
 by_cases hk:k = id
 · subst hk;simp [dy]
 · have:Nat.beq id k = false:=by
    rw [Bool.eq_false_iff]
    exact fun hb=>hk (Nat.eq_of_beq_eq_true hb).symm
   simp [dy,this,hk]
def lu (e:Ev):List Operand → Option (List HC)
 | []=>some []
 | x :: r =>
  match e x,lu e r with
  | some (.v cc),some l=>some (cc :: l)
  | _,_=>none
def a2l:List (Nat × ab) → List Nat
 | []=>[]
 | (_,x) :: r=>x.ids ++ a2l r
inductive Eff (P:Program) (E:Env) (nt:Nat) (ops:Array Oper) (o:Oper) (an:Ann) (s:S):Option HR → Wr → Prop where
 | cut (out:Out) (id:Nat) (hw:aw ops s o = some true) (hd:cg nt o.dst = true) (hq':o5 E s.o (ev s) o.op = some (out,id)) (hp:out.pre) (hW:an.W = [id]):Eff P E nt ops o an s (some out.val) [(id,none)]
 | skip (hw:aw ops s o = some false) (hd:cg nt o.dst = true):Eff P E nt ops o an s (some (.tup [])) []
 | quiet (out:Out) (hw:aw ops s o = some true) (hd:cg nt o.dst = true) (hq':hq E an.ex s.o (ev s) o.op = some out) (hp:out.pre) (hM:out.val.ids = an.M):Eff P E nt ops o an s (some out.val) []
 | make (nw:New) (hw:aw ops s o = some true) (hd:cg nt o.dst = true) (hq':ha E (ev s) an.id o.op = some nw) (hp:nw.pre) (hm:NM s an.id) (hn:s.o an.id = none)
  (hW:an.W = [an.id]) (hN:an.N = [an.id]) (hM:nw.val.ids ++ nw.ob.ids = an.M):Eff P E nt ops o an s (some nw.val) [(an.id,some nw.ob)]
 | store (u:Upd) (hw:aw ops s o = some true) (hd:cg nt o.dst = true) (hq':hs E s.o (ev s) o.op = some u) (hp:u.pre) (hW:an.W = [u.id]) (hM:∀ k ∈ u.ob.ids,k ∈ an.M):Eff P E nt ops o an s none [(u.id,some u.ob)]
 | app (u:App) (hw:aw ops s o = some true) (hd:cg nt o.dst = true) (hq':hap E s.o (ev s) an.id an.wb o.op = some u) (hp:u.pre) (hn:u.new = true → NM s an.id ∧ s.o an.id = none)
  (hW:an.W = [u.id]) (hN:u.new = true → an.N = [an.id]) (hM:u.val.ids ++ u.ob.ids = an.M):Eff P E nt ops o an s (some u.val) [(u.id,some u.ob)]
 | call (cl:Call) (f:FuncId) (caps args:List PC) (p:Prop) (vs:List PC) (b:Bool) (hw:aw ops s o = some true) (hd:cg nt o.dst = true) (ho:o.op = .call cl) (hc:callee (ev s) cl = some (f,caps)) (hf:al P f)
  (hv:fy s.o (ev s) cl.args.toList = some (p,vs,b)) (hp:p) (hco:CoL (vs ++ caps) args) (hpure:ao P f args an.res) (hb:(!b || an.res.flat) = true) (hM:an.M = []):Eff P E nt ops o an s (some an.res.toH) []
 | fcall (cl:Call) (f:FuncId) (caps:List HC) (args hcs:List HC) (o1 o2:List (Nat × ab)) (res:HR) (fx:List Nat) (hw:aw ops s o = some true) (hd:cg nt o.dst = true) (ho:o.op = .call cl) (hc:oh (ev s) cl = some (f,caps)) (hf:al P f)
  (hv:lu (ev s) cl.args.toList = some hcs) (hco:fh (hcs ++ caps) args) (hfun:eq P f args o1 res o2 fx) (hsub:∀ id ob,lk o1 id = some ob → ∃ ob',s.o id = some ob' ∧ CoO ob' ob)
  (hnew:∀ id ∈ bu o2,id ∉ bu o1 → s.o id = none) (hnm:∀ id ∈ bu o2,id ∉ fx ∨ id ∉ bu o1 → NMx s (bu o1 ++ bu o2) id) (hcl:∀ id ob,lk o2 id = some ob → ∀ k,ob.men k → k ∈ bu o2) (hclr:∀ k,res.men k → k ∈ bu o2)
  (hW:an.W = bu o1 ++ bu o2) (hN:∀ id ∈ bu o2,id ∉ fx ∨ id ∉ bu o1 → id ∈ an.N) (hM:an.M = res.ids ++ a2l o2):Eff P E nt ops o an s (some res) (uy o1 o2)
theorem a6q:∀ (l:List PV),ge (l.map .p) = []
 | []=>rfl
 | _ :: r=>by simp [ge,HV.ids,a6q r]
theorem a2q:∀ (l:List PC),uk (l.map PC.toH) = []
 | []=>rfl
 | .one _ :: r=>by simp [uk,HC.ids,PC.toH,HV.ids,a2q r]
 | .agg l :: r=>by simp [uk,HC.ids,PC.toH,a6q l,a2q r]
theorem PR.ids_toH (x:PR):x.toH.ids = []:=by
 cases x with
 | v x=>cases x <;> simp [PR.toH,HR.ids,PC.toH,HC.ids,HV.ids,a6q]
 | tup l=>simp [PR.toH,HR.ids,a2q]
def S.after (s:S) (d:Option Tmp) (x:Option HR) (wr:Wr):S:=(s.setW wr).putD d x
def rf (ro:Option Nat):Fence:={ fn:=fun _=>True,depth:=none,alive:=false,round:=ro }
theorem ac3 {P:Program} {ro:Option Nat} {n:Nat} {f:FuncId} {args:Array Value} {w:World} {R:Ending → World → Prop} (h:Calls P f args w R):CallsIn (rf ro) n P f args w R:=(callsIn_wide (n:=n)).2 h
theorem acy {P:Program} {ro:Option Nat} {n:Nat} {row:String} {args:Array Value} {w:World} {R:Value → World → Prop} (h:Rows P row args w R):RowsIn (rf ro) n P row args w R:=fun c cs _=>by
 obtain ⟨v,w',r,s⟩:=h c cs
 exact ⟨v,w',r,stepsIn_wide.2 s⟩
theorem a90 {P:Program} {ro:Option Nat} {n:Nat} {o:Oper} {a:Act} {w:World} {K:Act → World → Prop} {Q:Exit → Act → World → Prop} (hnd:∀ c,o.op ≠ .defer c) (h:o.wp P a w K Q):o.wpIn (rf ro) n P a w K Q:=by
 refine ⟨fun _ _=>trivial, ?_⟩
 rw [Oper.semAt_eq _ _ _ hnd]
 unfold Oper.wp at h
 generalize (execOp a.eval o).run P w = r at *
 cases r with
 | ok x w' =>
  cases x <;> simp only [Oper.upon,Oper.uponIn] at h ⊢ <;>
   first
    | exact h
    | exact ⟨(fun hh=>absurd hh (by simp [rf])),ac3 h⟩
    | exact ⟨(fun hh=>absurd hh (by simp [rf])),acy h⟩
    | exact h.elim
 | halt x w'=>cases x <;> simp only [Oper.upon,Oper.uponIn] at h ⊢ <;> first | exact h | exact h.elim
def abz (P:Program) (ops:Array Oper) (Q:Exit → Act → World → Prop) (i:Nat) (K:Act → World → Prop) (a:Act) (w:World):Prop :=
 match ops[i]? with
 | none=>K a w
 | some o=>if Region.wanted o (yielded ops a.tmps) then o.wp P a w K Q else K (a.put o.dst undef) w
theorem Eff.nd {P:Program} {E:Env} {nt:Nat} {ops:Array Oper} {o:Oper} {an:Ann} {s:S} {x:Option HR} {wr:Wr} (he:Eff P E nt ops o an s x wr):aw ops s o = some false ∨ ∀ c,o.op ≠ .defer c:=by
 cases he with
 | skip hw hd=>exact .inl hw
 | cut out id hw hd hq' hp hW=>exact .inr fun c hc=>by rw [hc] at hq';cases hq'
 | quiet out hw hd hq' hp hM=>exact .inr fun c hc=>by rw [hc] at hq';cases hq'
 | make nw hw hd hq' hp hm hn hW hN hM=>exact .inr fun c hc=>by rw [hc] at hq';cases hq'
 | store u hw hd hq' hp hW hM=>exact .inr fun c hc=>by rw [hc] at hq';cases hq'
 | app u hw hd hq' hp hn hW hN hM=>exact .inr fun c hc=>by rw [hc] at hq';cases hq'
 | call cl f caps args p vs b hw hd ho hc hf hv hp hco hpure hb hM=>exact .inr fun c hc=>by rw [hc] at ho;cases ho
 | fcall cl f caps args hcs o1 o2 res fx hw hd ho hc hf hv hco hfun hsub hnew hnm hcl hclr hW hN hM=>exact .inr fun c hc=>by rw [hc] at ho;cases ho
section
variable {P:Program} {E:Env} {w0:World} {m0:Old} {nt:Nat} {s:S} {a:Act} {w:World} {ops:Array Oper} {o:Oper} {an:Ann}
theorem ff (h:cg nt o.dst = true):∀ k,o.dst = some k → k < nt:=by
 intro k hk
 rw [hk] at h
 exact of_decide_eq_true h
theorem d6 {c:Ctx} (h:aj w0 nt c s a w) {b:Bool} (hw:aw ops s o = some b):Region.wanted o (yielded ops a.tmps) = b:=by
 unfold aw at hw
 unfold Region.wanted
 split at hw
 · rename_i hg
   simp only [Option.some.injEq] at hw
   rw [hg,hw]
 · rename_i j want hg
   rw [hg]
   split at hw <;> try (cases hw;done)
   rename_i d hd
   split at hw <;> try (cases hw;done)
   rotate_left
   · rename_i hb
     simp only [Option.some.injEq] at hw
     obtain ⟨us,e1,e2⟩:=h.tmps d _ hb
     have e3:us = []:=by cases us with | nil=>rfl | cons=>exact e2.elim
     subst e3
     show (yielded ops a.tmps j == some want) = b
     have hy:yielded ops a.tmps j = none:=by
      unfold yielded
      rw [hd]
      simp only [Option.bind_some]
      rcases Nat.lt_or_ge d a.tmps.size with h' | h'
      · have:a.tmps[d]? = some (.tuple #[]):=by
         rw [Array.getElem?_eq_getElem h',← e1]
         simp [h']
        simp [this]
      · simp [Array.getElem?_eq_none h']
     rw [hy,← hw]
     rfl
   rename_i bb hb
   simp only [Option.some.injEq] at hw
   obtain ⟨e1,_⟩:=h.tmps d _ hb
   have hsz:d < a.tmps.size:=by
    rcases Nat.lt_or_ge d a.tmps.size with h' | h'
    · exact h'
    · have:a.tmps.getD d undef = undef:=by simp [Array.getElem?_eq_none h']
      rw [this] at e1
      cases e1
   have:a.tmps[d]? = some (.bool bb):=by
    rw [Array.getElem?_eq_getElem hsz]
    rw [← e1]
    simp [hsz]
   have hy:yielded ops a.tmps j = some bb:=by
    unfold yielded
    rw [hd]
    simp [this]
   show (yielded ops a.tmps j == some want) = b
   rw [hy,← hw]
   cases bb <;> cases want <;> rfl
theorem b9.append {c:Ctx} {o:aq}:∀ {xs ys:List HC} {us vs:List Value},b9 c o xs us → b9 c o ys vs → b9 c o (xs ++ ys) (us ++ vs)
 | [],_,[],_,_,h=>h
 | _ :: _,_,_ :: _,_,h,k=>⟨h.1,b9.append h.2 k⟩
 | [],_,_ :: _,_,h,_=>h.elim
 | _ :: _,_,[],_,h,_=>h.elim
theorem vb {c:Ctx} {o:aq} {caps:Nat → HV}:∀ (n i:Nat) (cs:List Value),cs.length = i + n → (∀ j,j < i + n → ∃ x,cs[j]? = some x ∧ b4 c o (caps j) x) → b9 c o (a2r caps n i) (cs.drop i)
 | 0,i,cs,hl,_=>by
  rw [List.drop_eq_nil_of_le (by omega)]
  trivial
 | n + 1,i,cs,hl,h=>by
  rw [List.drop_eq_getElem_cons (by omega)]
  obtain ⟨x,hx,hr⟩:=h i (by omega)
  rw [List.getElem?_eq_getElem (by omega)] at hx
  simp only [Option.some.injEq] at hx
  subst hx
  exact ⟨hr,vb n (i + 1) cs (by omega) fun j hj=>h j (by omega)⟩
theorem zh {c:Ctx} (h:aj w0 nt c s a w):∀ {l:List Operand} {hcs:List HC},lu (ev s) l = some hcs → b9 c s.o hcs (l.map a.eval)
 | [],hcs,hv=>by
  simp only [lu,Option.some.injEq] at hv
  subst hv
  trivial
 | x :: r,hcs,hv=>by
  simp only [lu] at hv
  split at hv <;> try (cases hv;done)
  rename_i cc l e1 e2
  simp only [Option.some.injEq] at hv
  subst hv
  exact ⟨ae h e1,zh h e2⟩
theorem ac7 (hE:bm P E) {x:Option HR} {wr:Wr} (he:Eff P E nt ops o an s x wr) (h:Rel w0 m0 nt s a w) {i:Nat} (hi:ops[i]? = some o) {K:Act → World → Prop} {Q:Exit → Act → World → Prop}
 (hK:∀ a' w',Rel w0 m0 nt (s.after o.dst x wr) a' w' → K a' w'):abz P ops Q i K a w:=by
 obtain ⟨c,hold,h⟩:=h
 unfold abz
 simp only [hi]
 cases he with
 | cut out id hw hd hq' hp hW =>
  rw [if_pos (d6 h hw)]
  obtain ⟨v,c',h1,hold',h2,h3⟩:=a8q hE h hq' hp
  unfold Oper.wp
  rw [h1]
  refine hK _ _ ⟨c',hold'.trans hold, ?_⟩
  have e:s.after o.dst (some out.val) [(id,none)] = (s.setO id none).putD o.dst (some out.val):=by
   unfold S.after
   rw [S.setW_none]
  rw [e]
  exact h2.putD o.dst (ff hd) (some out.val) v (fun y hy=>by
   simp only [Option.some.injEq] at hy
   subst hy
   exact h3)
 | skip hw hd =>
  rw [if_neg (by rw [d6 h hw];simp)]
  exact hK _ _ ⟨c,hold,h.putD o.dst (ff hd) (some (.tup [])) undef (fun y hy=>by cases hy;exact ⟨[],rfl,trivial⟩)⟩
 | quiet out hw hd hq' hp hM =>
  rw [if_pos (d6 h hw)]
  obtain ⟨v,h1,h2⟩:=ahh hE h hq' hp
  unfold Oper.wp
  rw [h1]
  exact hK _ _ ⟨c,hold,h.putD o.dst (ff hd) (some out.val) v (fun y hy=>by
   simp only [Option.some.injEq] at hy
   subst hy
   exact h2)⟩
 | make nw hw hd hq' hp hm hn hW hN hM =>
  rw [if_pos (d6 h hw)]
  obtain ⟨v,w',c',h1,ho',h2,h3⟩:=aju hE h hq' hp hm hn
  have hold':=ho'.trans hold
  unfold Oper.wp
  rw [h1]
  exact hK _ _ ⟨c',hold',(by unfold S.after;rw [S.setW_one];exact h2.putD o.dst (ff hd) (some nw.val) v (fun y hy=>by
   simp only [Option.some.injEq] at hy
   subst hy
   exact h3))⟩
 | store u hw hd hq' hp hW hM =>
  rw [if_pos (d6 h hw)]
  obtain ⟨w',c',h1,ho',h2⟩:=ais hE h hq' hp
  have hold':=ho'.trans hold
  unfold Oper.wp
  rw [h1]
  exact hK _ _ ⟨c',hold',(by unfold S.after;rw [S.setW_one];exact h2.putD o.dst (ff hd) none undef (fun y hy=>by cases hy))⟩
 | app u hw hd hq' hp hn hW hN hM =>
  rw [if_pos (d6 h hw)]
  obtain ⟨v,w',c',h1,⟨ho',h2⟩,h3⟩:=ae7 hE h hq' hp hn
  have hold':=ho'.trans hold
  unfold Oper.wp
  rw [h1]
  exact hK _ _ ⟨c',hold',(by unfold S.after;rw [S.setW_one];exact h2.putD o.dst (ff hd) (some u.val) v (fun y hy=>by
   simp only [Option.some.injEq] at hy
   subst hy
   exact h3))⟩
 | call cl f caps args p vs b hw hd ho hc hf hv hp hco hpure hb hM =>
  rw [if_pos (d6 h hw)]
  unfold callee at hc
  split at hc <;> try (cases hc;done)
  rename_i fo hcal
  split at hc <;> try (cases hc;done)
  rename_i g k capf hfo
  simp only [Option.some.injEq,Prod.mk.injEq] at hc
  obtain ⟨rfl,rfl⟩:=hc
  obtain ⟨cs,e1,hcl,hcr⟩:=ae h hfo
  obtain ⟨fn,hfn,hname,hbody⟩:=hf
  have hrun:(execOp a.eval o).run P w = .ok (.enter g ((cl.args.toList.map a.eval) ++ cs).toArray) w:=by
   unfold execOp
   simp only [ho,resolve,hcal,Sem.run_bind,e1,Deferred.ofValue,Sem.run_pure,Result.andThen_ok,invoke,callFunc,run_program,hfn,hname,hbody]
   simp
  obtain ⟨q1,q2⟩:=sk h (ahf h) hv hp
  have hcapr:∀ m:Imm,Imm.le c.imm m → bq m (i9 capf k 0) cs:=fun m hm=>by
   have:=pk (m:=m) (caps:=capf) k 0 cs (by omega) (fun j hj=>by
    obtain ⟨x,hx,hr⟩:=hcr j (by omega)
    exact ⟨x,hx,b5.mono hm hr⟩)
   simpa using this
  unfold Oper.wp
  rw [hrun]
  rw [Oper.upon_enter]
  cases hbb:b with
  | false =>
   have hargs:bq c.imm args (cl.args.toList.map a.eval ++ cs):=CoL.sound hco (bq.append (q2 hbb) (hcapr _ (Imm.le.refl _)))
   refine (hpure w c.imm _ c.tab h.imm hargs).mono ?_
   rintro e w' ⟨v,imm',rfl,hr,h1,h2,h3⟩
   have h':=h.later w' h3 imm' h1 h2
   exact hK _ _ ⟨_,by exact hold,h'.putD o.dst (ff hd) (some an.res.toH) v (fun y hy=>by
    simp only [Option.some.injEq] at hy
    subst hy
    exact ap.of_P hr)⟩
  | true =>
   have hflat:an.res.flat = true:=by rw [hbb] at hb;simpa using hb
   have hargs:bq (d3 w) args (cl.args.toList.map a.eval ++ cs):=CoL.sound hco (bq.append q1 (hcapr _ (tn h)))
   refine (hpure w (d3 w) _ (c.tab.mono (tn h)) (fun _ _ hh=>hh) hargs).mono ?_
   rintro e w' ⟨v,imm',rfl,hr,h1,h2,h3⟩
   have h':=h.later w' h3 (fun b=>if b < w.heap.size then c.imm b else none) (fun b hb=>by simp [hb]) (fun b ob hbo=>by
    by_cases hlt:b < w.heap.size
    · simp only [hlt,if_true] at hbo
      rw [h3.block b hlt]
      exact h.imm b ob hbo
    · simp [hlt] at hbo)
   exact hK _ _ ⟨_,by exact hold,h'.putD o.dst (ff hd) (some an.res.toH) v (fun y hy=>by
    simp only [Option.some.injEq] at hy
    subst hy
    exact ap.of_P (kj.flat hflat hr))⟩
 | fcall cl f caps args hcs o1 o2 res fx hw hd ho hc hf hv hco hfun hsub hnew hnm hcl hclr hW hN hM =>
  rw [if_pos (d6 h hw)]
  unfold oh at hc
  split at hc <;> try (cases hc;done)
  rename_i fo hcal
  obtain ⟨fn,hfn,hname,hbody⟩:=hf
  obtain ⟨cs,e1,hcapr⟩:∃ cs:List Value,a.eval fo = .func (.func f) #[] cs.toArray ∧ b9 c s.o caps cs:=by
   split at hc <;> try (cases hc;done)
   · rename_i g k capf hfo
     simp only [Option.some.injEq,Prod.mk.injEq] at hc
     obtain ⟨rfl,rfl⟩:=hc
     obtain ⟨cs,e1,hcl',hcr⟩:=ae h hfo
     refine ⟨cs,e1, ?_⟩
     have:=pk (m:=c.imm) (caps:=capf) k 0 cs (by omega) (fun j hj=>by
      obtain ⟨x,hx,hr⟩:=hcr j (by omega)
      exact ⟨x,hx,hr⟩)
     exact b9.of_P (by simpa using this)
   · rename_i g k capf hfo
     simp only [Option.some.injEq,Prod.mk.injEq] at hc
     obtain ⟨rfl,rfl⟩:=hc
     obtain ⟨cs,e1,hcl',hcr⟩:=ae h hfo
     refine ⟨cs,e1, ?_⟩
     have:=vb (c:=c) (o:=s.o) (caps:=capf) k 0 cs (by omega) (fun j hj=>hcr j (by omega))
     simpa using this
  have hrun:(execOp a.eval o).run P w = .ok (.enter f ((cl.args.toList.map a.eval) ++ cs).toArray) w:=by
   unfold execOp
   simp only [ho,resolve,hcal,Sem.run_bind,e1,Deferred.ofValue,Sem.run_pure,Result.andThen_ok,invoke,callFunc,run_program,hfn,hname,hbody]
   simp
  have hargs:b9 c s.o args (cl.args.toList.map a.eval ++ cs):=b9.co hco (b9.append (zh h hv) hcapr)
  obtain ⟨hmem,hto⟩:=h.lend hsub
  unfold Oper.wp
  rw [hrun]
  rw [Oper.upon_enter]
  refine (hfun w c _ hmem (hto _ _ hargs)).mono ?_
  rintro e w' ⟨v,c',rfl,hr,hm',hbel,hfr,hbk,hfx⟩
  obtain ⟨c'',q1,_,q2,q3⟩:=h.fcall hsub (fun id h2 h1=>hnew id h2 h1) (fun id h2 h1=>hnm id h2 h1) hcl hm' hbel hfr hbk hfx
  exact hK _ _ ⟨c'',q1.trans hold,q2.putD o.dst (ff hd) (some res) v (fun y hy=>by
   simp only [Option.some.injEq] at hy
   subst hy
   exact q3 _ _ hr hclr)⟩
theorem vw (hE:bm P E) {ro:Option Nat} {n:Nat} {x:Option HR} {wr:Wr} (he:Eff P E nt ops o an s x wr) (h:Rel w0 m0 nt s a w) {i:Nat} (hi:ops[i]? = some o) {K:Act → World → Prop} {Q:Exit → Act → World → Prop}
 (hK:∀ a' w',Rel w0 m0 nt (s.after o.dst x wr) a' w' → K a' w'):wpOpIn (rf ro) n P ops Q i K a w:=by
 have h1:=ac7 hE he h hi (Q:=Q) hK
 unfold abz at h1
 unfold wpOpIn
 simp only [hi] at h1 ⊢
 obtain ⟨c,hold,hr⟩:=h
 rcases he.nd with hn | hn
 · have hw:=d6 hr hn
   rw [if_neg (by rw [hw];simp)] at h1 ⊢
   exact ⟨fun _ _=>trivial,h1⟩
 · split
   · rename_i hw
     rw [if_pos hw] at h1
     exact a90 hn h1
   · rename_i hw
     rw [if_neg hw] at h1
     exact ⟨fun _ _=>trivial,h1⟩
end
end Go.Hx
end
section
namespace Go.Hx
open Go.RowKit
section
variable {E:Env} {ex:Bool} {o o':aq} {e e':Ev}
theorem cr {x:Operand} {r:HR} (hx:e x = some r):∀ {l:List Operand},x ∈ l → ∀ k ∈ r.ids,k ∈ bw e l
 | y :: l,hm,k,hk=>by
  rcases List.mem_cons.1 hm with rfl | hm
  · simp only [bw,hx];exact List.mem_append_left _ hk
  · simp only [bw];exact List.mem_append_right _ (cr hx hm k hk)
theorem kb:∀ {l:List Operand},(∀ x ∈ l,e' x = e x) → bw e' l = bw e l
 | [],_=>rfl
 | x :: l,h=>by
  simp only [bw]
  rw [h x (by simp),kb fun y hy=>h y (by simp [hy])]
theorem qz {h:HV} (ho:∀ k ∈ h.ids,o' k = o k):tgt o' h = tgt o h:=by
 cases h with
 | p x=>cases x <;> rfl
 | ref id n=>rfl
 | ptr id off=>simp only [tgt];rw [ho id (by simp [HV.ids])]
 | eptr id n i j=>simp only [tgt];rw [ho id (by simp [HV.ids])]
 | win id n i m=>rfl
 | clo g k caps=>rfl
 | row id i k=>rfl
 | rptr id i k r j=>simp only [tgt];rw [ho id (by simp [HV.ids])]
 | pin id n ad cap=>rfl
theorem sd {places:List (Nat × Nat)}:∀ {parts:List (Nat × Operand)} {cells:List HV},(∀ x ∈ parts.map (·.2),e' x = e x) → dv e' places cells parts = dv e places cells parts
 | [],_,_=>rfl
 | (i,x) :: r,cells,h=>by
  have hx:=h x (by simp)
  have ih:∀ cells,dv e' places cells r = dv e places cells r:=fun cells=>sd fun y hy=>h y (by simp at hy ⊢;exact .inr hy)
  simp only [dv,hx,ih]
theorem zc:∀ {l:List Operand},(∀ x ∈ l,e' x = e x) → qu e' l = qu e l
 | [],_=>rfl
 | x :: l,h=>by
  simp only [qu]
  rw [h x (by simp),zc fun y hy=>h y (by simp [hy])]
theorem za:∀ {l:List Operand},(∀ x ∈ l,e' x = e x) → rn e' l = rn e l
 | [],_=>rfl
 | x :: l,h=>by
  simp only [rn]
  rw [h x (by simp),za fun y hy=>h y (by simp [hy])]
theorem ij {x:Option Operand} (h:∀ y ∈ x.toList,e' y = e y):eg e' x = eg e x:=by
 cases x with
 | none=>rfl
 | some y=>simp only [eg];rw [h y (by simp)]
theorem a1q {b:Builtin} {args:List Operand} {tys:List TypeId} (h:∀ x ∈ args,e' x = e x):li E e' b args tys = li E e b args tys:=by
 unfold li
 split
 · rename_i x t r
   rw [h x (by simp)]
 · rename_i x y
   rw [h x (by simp),h y (by simp)]
 · rename_i x y
   rw [h x (by simp),h y (by simp)]
 · rfl
theorem aba {h:HV} (ho:∀ k ∈ h.ids,o' k = o k):wj o' h = wj o h:=by
 cases h with
 | ref id n=>simp only [wj];rw [ho id (by simp [HV.ids])]
 | win id n i m=>simp only [wj];rw [ho id (by simp [HV.ids])]
 | row id i k=>simp only [wj];rw [ho id (by simp [HV.ids])]
 | _=>rfl
theorem abx {h:HV} {n:Nat} {i:Int} (ho:∀ k ∈ h.ids,o' k = o k):zp o' n i h = zp o n i h:=by
 cases h with
 | ref id n=>simp only [zp];rw [ho id (by simp [HV.ids])]
 | win id n i m=>simp only [zp];rw [ho id (by simp [HV.ids])]
 | row id i k=>simp only [zp];rw [ho id (by simp [HV.ids])]
 | p x=>cases x <;> rfl
 | _=>rfl
theorem a5h {h:HV} {n:Nat} {x y z:Option Int} (ho:∀ k ∈ h.ids,o' k = o k):pl o' n x y z h = pl o n x y z h:=by
 cases h with
 | ref id n=>simp only [pl];rw [ho id (by simp [HV.ids])]
 | win id n i m=>simp only [pl];rw [ho id (by simp [HV.ids])]
 | _=>rfl
theorem a4l {x:Operand} {l:List Operand} {F:aq → HV → Option Out} {α:Type} {d:α} {G:Option Out → α} (hF:∀ h:HV,(∀ k ∈ h.ids,o' k = o k) → F o' h = F o h) (hl:x ∈ l) (ho:∀ k ∈ bw e l,o' k = o k) :
 (match e x with | some (.v (.one h))=>G (F o' h) | _=>d) = (match e x with | some (.v (.one h))=>G (F o h) | _=>d):=by
 cases hex:e x with
 | none=>rfl
 | some r =>
  cases r with
  | tup l=>rfl
  | v cc =>
   cases cc with
   | agg l=>rfl
   | one h =>
    dsimp only
    rw [hF h fun k hk=>ho k (cr hex hl k hk)]
theorem a37 {b:Builtin} {args:List Operand} {tys:List TypeId} (h:∀ x ∈ args,e' x = e x) (ho:∀ k ∈ bw e args,o' k = o k):mo E o' e' b args tys = mo E o e b args tys:=by
 unfold mo
 split
 · rename_i x t r
   rw [h x (by simp)]
   cases E t with
   | none=>rfl
   | some ti =>
    dsimp only
    cases ti.k <;> try rfl
    exact a4l (G:=id) (F:=wj) (fun h hh=>aba hh) (by simp) ho
 · rfl
theorem a8x {x:Operand} (ho:∀ k ∈ bw e [x],o' k = o k):kn o' e x = kn o e x:=by
 unfold kn
 cases hex:e x with
 | none=>rfl
 | some r =>
  cases r with
  | tup l=>rfl
  | v cc =>
   cases cc with
   | agg l=>rfl
   | one h =>
    have:=qz (o:=o) (o':=o') (h:=h) (fun k hk=>ho k (cr hex (by simp) k hk))
    cases h with
    | p x=>cases x <;> rfl
    | ref id n=>rfl
    | ptr id off=>dsimp only;rw [this]
    | eptr id n i j=>dsimp only;rw [this]
    | win id n i m=>rfl
    | clo g k caps=>rfl
    | row id i k=>rfl
    | rptr id i k r j=>dsimp only;rw [this]
    | pin id n ad cap=>rfl
theorem a6w {t:TypeId} {x:Operand} (ho:∀ k ∈ bw e [x],o' k = o k):ig E o' e t x = ig E o e t x:=by
 unfold ig
 cases E t with
 | none=>rfl
 | some i =>
  dsimp only
  cases hex:e x with
  | none=>rfl
  | some r =>
   cases r with
   | tup l=>rfl
   | v cc =>
    cases cc with
    | agg l=>rfl
    | one h =>
     dsimp only
     rw [qz (o:=o) (o':=o') (h:=h) (fun k hk=>ho k (cr hex (by simp) k hk))]
theorem yp {t:TypeId} {x:Operand} {k:Nat} (ho:∀ k ∈ bw e [x],o' k = o k):d5 E o' e t x k = d5 E o e t x k:=by
 unfold d5
 cases E t with
 | none=>rfl
 | some i =>
  dsimp only
  cases i.k <;> try rfl
  rename_i fs
  dsimp only
  cases fs[k]? with
  | none=>rfl
  | some q =>
   obtain ⟨off,ft,bl⟩:=q
   dsimp only
   cases E ft with
   | none=>rfl
   | some fi =>
    dsimp only
    cases hex:e x with
    | none=>rfl
    | some r =>
     cases r with
     | tup l=>rfl
     | v cc =>
      cases cc with
      | agg l=>rfl
      | one h =>
       dsimp only
       rw [qz (o:=o) (o':=o') (h:=h) (fun k hk=>ho k (cr hex (by simp) k hk))]
theorem a0r {len:Nat} {el:TypeId} {x i:Operand} (ho:∀ k ∈ bw e [x],o' k = o k):iu E o' e len el x i = iu E o e len el x i:=by
 unfold iu
 cases E el with
 | none=>rfl
 | some ei =>
  dsimp only
  cases hex:e x with
  | none=>rfl
  | some r =>
   cases r with
   | tup l=>rfl
   | v cc =>
    cases cc with
    | agg l=>rfl
    | one h =>
     dsimp only
     rw [qz (o:=o) (o':=o') (h:=h) (fun k hk=>ho k (cr hex (by simp) k hk))]
theorem yt {t:TypeId} {x i:Operand} (ho:∀ k ∈ bw e [x],o' k = o k):dj E o' e t x i = dj E o e t x i:=by
 unfold dj
 cases E t with
 | none=>rfl
 | some ii =>
  dsimp only
  cases ii.k <;> try rfl
  case array len el=>exact a0r ho
  rename_i el
  dsimp only
  cases E el with
  | none=>rfl
  | some ei =>
   dsimp only
   cases hex:e x with
   | none=>rfl
   | some r =>
    cases r with
    | tup l=>rfl
    | v cc =>
     cases cc with
     | agg l=>rfl
     | one h =>
      dsimp only
      have:=fun iv=>abx (o:=o) (o':=o') (h:=h) (n:=ei.size) (i:=iv) (fun k hk=>ho k (cr hex (by simp) k hk))
      simp only [this]
theorem a8p {h:HV} {kk:KK} {m:MK} {z:Value} {cm:Bool} (ho:∀ k ∈ h.ids,o' k = o k):a1t o' kk m z cm h = a1t o kk m z cm h:=by
 cases h with
 | ref id n=>simp only [a1t];rw [ho id (by simp [HV.ids])]
 | _=>rfl
theorem a2i {t:TypeId} {x i:Operand} {cm:Bool} (ho:∀ k ∈ bw e [x],o' k = o k):fq E o' e t x i cm = fq E o e t x i cm:=by
 unfold fq
 cases E t with
 | none=>rfl
 | some ii =>
  dsimp only
  cases ii.k <;> try rfl
  rename_i kt et
  dsimp only
  cases aah E kt et with
  | none=>rfl
  | some q =>
   obtain ⟨kk,z⟩:=q
   dsimp only
   cases hex:e x with
   | none=>rfl
   | some r =>
    cases r with
    | tup l=>rfl
    | v cc =>
     cases cc with
     | agg l=>rfl
     | one h =>
      dsimp only
      have:=fun m=>a8p (o:=o) (o':=o') (h:=h) (kk:=kk) (m:=m) (z:=z) (cm:=cm) (fun k hk=>ho k (cr hex (by simp) k hk))
      simp only [this]
theorem aii {op:Op} (hx:∀ x ∈ op.operands,e' x = e x) (ho:∀ k ∈ bw e op.operands.toList,o' k = o k):hq E ex o' e' op = hq E ex o e op:=by
 cases op <;> try rfl
 case move x=>show Option.map _ (e' x) = Option.map _ (e x);rw [hx x (by simp [Op.operands])]
 case assign x=>show Option.map _ (e' x) = Option.map _ (e x);rw [hx x (by simp [Op.operands])]
 case pick c x y =>
  show sh e' c x y = sh e c x y
  unfold sh
  rw [hx c (by simp [Op.operands]),hx x (by simp [Op.operands]),hx y (by simp [Op.operands])]
 case nilCheck x =>
  show kn o' e' x = kn o e x
  have h1:kn o' e' x = kn o' e x:=by unfold kn;rw [hx x (by simp [Op.operands])]
  rw [h1]
  exact a8x (by simpa [Op.operands] using ho)
 case load t x =>
  show ig E o' e' t x = ig E o e t x
  have h1:ig E o' e' t x = ig E o' e t x:=by unfold ig;rw [hx x (by simp [Op.operands])]
  rw [h1]
  exact a6w (by simpa [Op.operands] using ho)
 case fieldAddr t x k =>
  show d5 E o' e' t x k = d5 E o e t x k
  have h1:d5 E o' e' t x k = d5 E o' e t x k:=by unfold d5;rw [hx x (by simp [Op.operands])]
  rw [h1]
  exact yp (by simpa [Op.operands] using ho)
 case field t x k =>
  show oq E e' t x k = oq E e t x k
  unfold oq
  rw [hx x (by simp [Op.operands])]
 case indexAddr t x i =>
  show dj E o' e' t x i = dj E o e t x i
  have h1:dj E o' e' t x i = dj E o' e t x i:=by unfold dj iu;rw [hx x (by simp [Op.operands]),hx i (by simp [Op.operands])]
  rw [h1]
  refine yt fun k hk=>ho k ?_
  simp only [bw,Op.operands,List.append_nil] at hk ⊢
  exact List.mem_append_left _ hk
 case lookup t x i cm =>
  show fq E o' e' t x i cm = fq E o e t x i cm
  have h1:fq E o' e' t x i cm = fq E o' e t x i cm:=by unfold fq;rw [hx x (by simp [Op.operands]),hx i (by simp [Op.operands])]
  rw [h1]
  refine a2i fun k hk=>ho k ?_
  simp only [bw,Op.operands,List.append_nil] at hk ⊢
  exact List.mem_append_left _ hk
 case index t x i =>
  show ot E e' t x i = ot E e t x i
  unfold ot
  rw [hx x (by simp [Op.operands]),hx i (by simp [Op.operands])]
 case binOp op t x y ty =>
  have h1:yi E ex e' op t x y = yi E ex e op t x y:=by
   unfold yi
   rw [hx x (by simp [Op.operands]),hx y (by simp [Op.operands])]
  have h2:m8 E e' op t x y = m8 E e op t x y:=by
   unfold m8
   rw [hx x (by simp [Op.operands])]
  simp only [hq]
  rw [h1,h2]
 case unOp op t x =>
  show a34 ex e' op x = a34 ex e op x
  unfold a34
  rw [hx x (by simp [Op.operands])]
 case convert src dst x =>
  show tj E ex e' src dst x = tj E ex e src dst x
  unfold tj
  rw [hx x (by simp [Op.operands])]
 case extract x i =>
  show la e' x i = la e x i
  unfold la
  rw [hx x (by simp [Op.operands])]
 case slice t x lo hi mx =>
  have e0:=hx x (by simp [Op.operands])
  have e1:=ij (e:=e) (e':=e') (x:=lo) (fun y hy=>hx y (by simp [Op.operands];simp at hy;simp [hy]))
  have e2:=ij (e:=e) (e':=e') (x:=hi) (fun y hy=>hx y (by simp [Op.operands];simp at hy;simp [hy]))
  have e3:=ij (e:=e) (e':=e') (x:=mx) (fun y hy=>hx y (by simp [Op.operands];simp at hy;simp [hy]))
  have h1:gl E e' t x lo hi mx = gl E e t x lo hi mx:=by
   unfold gl
   rw [e0,e1,e2,e3]
  have h2:y4 E o' e' t x lo hi mx = y4 E o e t x lo hi mx:=by
   unfold y4
   rw [e0,e1,e2,e3]
   cases E t with
   | none=>rfl
   | some ti =>
    dsimp only
    cases ti.k <;> try rfl
    rename_i el
    dsimp only
    cases E el with
    | none=>rfl
    | some ei =>
     dsimp only
     cases eg e lo with
     | none=>rfl
     | some l =>
      cases eg e hi with
      | none=>rfl
      | some hh =>
       cases eg e mx with
       | none=>rfl
       | some m =>
        dsimp only
        exact a4l (G:=id) (F:=fun o h=>pl o ei.size l hh m h) (fun h hh=>a5h hh) (l:=(Op.slice t x lo hi mx).operands.toList) (by simp [Op.operands]) ho
  simp only [hq]
  rw [h1,h2]
 case makeFunc fn first caps =>
  show sv e' fn first.toList caps.toList = sv e fn first.toList caps.toList
  unfold sv
  rw [zc (l:=caps.toList) (fun y hy=>hx y (by simp [Op.operands];simp at hy;exact .inr hy)),za (l:=caps.toList) (fun y hy=>hx y (by simp [Op.operands];simp at hy;exact .inr hy))]
 case build t parts =>
  show oj E e' t parts.toList = oj E e t parts.toList
  have hf:∀ places cells,dv e' places cells parts.toList = dv e places cells parts.toList:=fun places cells=>sd fun x hm=>hx x (by simpa [Op.operands] using hm)
  unfold oj
  simp only [hf]
 case call c =>
  simp only [hq]
  cases hc:c.callee with
  | value f=>rfl
  | invoke r m=>rfl
  | builtin b =>
   simp only [Op.operands,Call.operands,hc] at hx ho
   have h1:∀ x ∈ c.args.toList,e' x = e x:=fun x hm=>hx x (by simpa using hm)
   have h2:∀ k ∈ bw e c.args.toList,o' k = o k:=fun k hk=>ho k (by simpa using hk)
   dsimp only
   rw [a1q h1,a37 h1 h2]
theorem ah8 {op:Op} {id:Nat} (hx:∀ x ∈ op.operands,e' x = e x):ha E e' id op = ha E e id op:=by
 cases op <;> simp only [ha] <;> simp only [Op.operands] at hx
 case box t x=>rw [hx x (by simp)]
 case buildSlice t n parts =>
  have hf:∀ sz cells,yj e' sz n parts.toList cells = yj e sz n parts.toList cells:=fun sz cells=>by
   unfold yj
   exact sd fun x hm=>hx x (by simpa using hm)
  simp only [hf]
 case makeSlice t l c=>rw [hx l (by simp),hx c (by simp)]
theorem a4r {t:TypeId} {x y:Operand} (ho:∀ k ∈ bw e [x,y],o' k = o k):gj E o' e t x y = gj E o e t x y:=by
 unfold gj
 cases E t with
 | none=>rfl
 | some i =>
  cases hv:e y with
  | none=>rfl
  | some rv =>
   cases rv with
   | tup l=>rfl
   | v cv =>
    cases hex:e x with
    | none=>rfl
    | some r =>
     cases r with
     | tup l=>rfl
     | v cc =>
      cases cc with
      | agg l=>rfl
      | one h =>
       cases h with
       | p x=>cases x <;> rfl
       | ref id n=>rfl
       | ptr id off=>dsimp only;rw [ho id (cr hex (by simp) id (by simp [HR.ids,HC.ids,HV.ids]))]
       | eptr id n r j=>dsimp only;rw [ho id (cr hex (by simp) id (by simp [HR.ids,HC.ids,HV.ids]))]
       | win id n i m=>rfl
       | clo g k caps=>rfl
       | row id i k=>rfl
       | rptr id i k r j=>dsimp only;rw [ho id (cr hex (by simp) id (by simp [HR.ids,HC.ids,HV.ids]))]
       | pin id n ad cap=>rfl
theorem a6a {h:HV} {kk:KK} {m:MK} {y:PV} (ho:∀ k ∈ h.ids,o' k = o k):vl o' kk m y h = vl o kk m y h:=by
 cases h with
 | ref id n=>simp only [vl];rw [ho id (by simp [HV.ids])]
 | _=>rfl
theorem a8r {t:TypeId} {x i v:Operand} (ho:∀ k ∈ bw e [x],o' k = o k):lj E o' e t x i v = lj E o e t x i v:=by
 unfold lj
 cases E t with
 | none=>rfl
 | some ii =>
  dsimp only
  cases ii.k <;> try rfl
  rename_i kt et
  dsimp only
  cases E kt with
  | none=>rfl
  | some ki =>
   dsimp only
   cases hex:e x with
   | none=>rfl
   | some r =>
    cases r with
    | tup l=>rfl
    | v cc =>
     cases cc with
     | agg l=>rfl
     | one h =>
      dsimp only
      have:=fun kk m y=>a6a (o:=o) (o':=o') (h:=h) (kk:=kk) (m:=m) (y:=y) (fun k hk=>ho k (cr hex (by simp) k hk))
      simp only [this]
theorem a5j {op:Op} (hx:∀ x ∈ op.operands,e' x = e x) (ho:∀ k ∈ bw e op.operands.toList,o' k = o k):hs E o' e' op = hs E o e op:=by
 cases op <;> try rfl
 case mapUpdate t x i v =>
  show lj E o' e' t x i v = lj E o e t x i v
  have h1:lj E o' e' t x i v = lj E o' e t x i v:=by unfold lj;rw [hx x (by simp [Op.operands]),hx i (by simp [Op.operands]),hx v (by simp [Op.operands])]
  rw [h1]
  refine a8r fun k hk=>ho k ?_
  simp only [bw,Op.operands,List.append_nil] at hk ⊢
  exact List.mem_append_left _ hk
 case store t addr v =>
  show gj E o' e' t addr v = gj E o e t addr v
  have h1:gj E o' e' t addr v = gj E o' e t addr v:=by unfold gj;rw [hx addr (by simp [Op.operands]),hx v (by simp [Op.operands])]
  rw [h1]
  exact a4r (by simpa [Op.operands] using ho)
theorem zn {id:Nat} {h:HV} (ho:∀ k ∈ h.ids,o' k = o k):o9 o' id h = o9 o id h:=by
 cases h with
 | p x =>
  cases x with
  | raw v =>
   cases v with
   | slice a n c=>cases n <;> rfl
   | _=>rfl
  | _=>rfl
 | ref id' n=>simp only [o9];rw [ho id' (by simp [HV.ids])]
 | _=>rfl
theorem s5 {id n:Nat} {wb:Bool} {el:TypeId} {y:HV} (hid:o' id = o id) (ho:∀ k ∈ y.ids,o' k = o k):kf E o' id n wb el y = kf E o id n wb el y:=by
 simp only [kf]
 rw [hid,zn ho]
theorem a1p {id:Nat} {h:HV} (ho:∀ k ∈ h.ids,o' k = o k):w4 o' id h = w4 o id h:=by
 simp only [w4]
 rw [zn ho]
 cases h with
 | ref id' n=>simp only;rw [ho id' (by simp [HV.ids])]
 | _=>rfl
theorem a7t {id n:Nat} {el:TypeId} {y:HV} (hid:o' id = o id) (ho:∀ k ∈ y.ids,o' k = o k):ph E o' id n el y = ph E o id n el y:=by
 simp only [ph]
 rw [hid,a1p ho]
theorem aae {id n:Nat} {el:TypeId} {y:HV} (hid:o' id = o id) (ho:∀ k ∈ y.ids,o' k = o k):a03 E o' id n el y = a03 E o id n el y:=by
 simp only [a03]
 rw [hid,a1p ho]
theorem a8z {el:TypeId} {id n i k:Nat} {y:HV} (hid:o' id = o id):tz E o' el id n i k y = tz E o el id n i k y:=by
 unfold tz
 rw [hid]
theorem abe {h:HV} {z:List Value} {n:Nat} (ho:∀ k ∈ h.ids,o' k = o k):a2m o' z n h = a2m o z n h:=by
 cases h with
 | win id n i m=>simp only [a2m];rw [ho id (by simp [HV.ids])]
 | _=>rfl
theorem a8y {id:Nat} {wb:Bool} {el:TypeId} {hy hx:HV} (h1:∀ k ∈ hx.ids,o' k = o k) (h2:∀ k ∈ hy.ids,o' k = o k):o0 E o' id wb el hy hx = o0 E o id wb el hy hx:=by
 cases hx with
 | win id1 n i k =>
  simp only [o0]
  exact a8z (h1 id1 (by simp [HV.ids]))
 | pin id1 n ad cap =>
  simp only [o0]
  rw [s5 (o:=o) (o':=o') (h1 id1 (by simp [HV.ids])) h2]
 | ref id1 n =>
  simp only [o0]
  rw [s5 (o:=o) (o':=o') (h1 id1 (by simp [HV.ids])) h2,a7t (o:=o) (o':=o') (h1 id1 (by simp [HV.ids])) h2,aae (o:=o) (o':=o') (h1 id1 (by simp [HV.ids])) h2]
 | p px =>
  cases px with
  | sl n sz cl f =>
   cases cl with
   | false=>rfl
   | true =>
    simp only [o0]
    cases E el with
    | none=>rfl
    | some ei =>
     dsimp only
     rw [s5 (o:=fun k=>if k = id then some (ab.arr false ei.size el n f) else o k) (o':=fun k=>if k = id then some (ab.arr false ei.size el n f) else o' k) (by simp) (fun k hk=>by
      try dsimp only
      split
      · rfl
      · exact h2 k hk)]
  | _=>rfl
 | _=>rfl
theorem a8j {id:Nat} {wb:Bool} {t:TypeId} {x y:Option HR} (hx:∀ r,x = some r → ∀ k ∈ r.ids,o' k = o k) (hy:∀ r,y = some r → ∀ k ∈ r.ids,o' k = o k) :
 xt E o' id wb t x y = xt E o id wb t x y:=by
 unfold xt
 cases E t with
 | none=>rfl
 | some i =>
  dsimp only
  cases i.k <;> try rfl
  rename_i el
  cases x with
  | none=>rfl
  | some rx =>
   cases rx with
   | tup l=>rfl
   | v cx =>
    cases cx with
    | agg l=>rfl
    | one hxv =>
     cases y with
     | none=>rfl
     | some ry =>
      cases ry with
      | tup l=>rfl
      | v cy =>
       cases cy with
       | agg l=>rfl
       | one hyv=>exact a8y (hx _ rfl) (hy _ rfl)
theorem ae1 {op:Op} {id:Nat} {wb:Bool} (hx:∀ x ∈ op.operands,e' x = e x) (ho:∀ k ∈ bw e op.operands.toList,o' k = o k):hap E o' e' id wb op = hap E o e id wb op:=by
 cases op <;> try rfl
 case call c =>
  unfold hap
  dsimp only
  split
  · rename_i hc
    simp only [Op.operands,Call.operands,hc] at hx ho
    have h1:∀ x ∈ c.args.toList,e' x = e x:=fun x hm=>hx x (by simpa using hm)
    have h2:∀ k ∈ bw e c.args.toList,o' k = o k:=fun k hk=>ho k (by simpa using hk)
    generalize c.args.toList = l at h1 h2
    unfold yb
    split
    · rename_i x y t t' _
      split
      · rw [h1 x (by simp),h1 y (by simp)]
        exact a8j (fun r hr k hk=>h2 k (cr hr (by simp) k hk)) (fun r hr k hk=>h2 k (cr hr (by simp) k hk))
      · rfl
    · rfl
  · rename_i hc
    simp only [Op.operands,Call.operands,hc] at hx ho
    have h1:∀ x ∈ c.args.toList,e' x = e x:=fun x hm=>hx x (by simpa using hm)
    have h2:∀ k ∈ bw e c.args.toList,o' k = o k:=fun k hk=>ho k (by simpa using hk)
    generalize c.args.toList = l at h1 h2
    unfold qd
    split
    · rename_i x t _
      rw [h1 x (by simp)]
      cases E t with
      | none=>rfl
      | some ti =>
       dsimp only
       cases ti.k <;> try rfl
       rename_i el
       dsimp only
       cases E el with
       | none=>rfl
       | some ei =>
        dsimp only
        cases ei.zero with
        | none=>rfl
        | some z =>
         dsimp only
         split
         · cases hex:e x with
           | none=>rfl
           | some r =>
            cases r with
            | tup l=>rfl
            | v cc =>
             cases cc with
             | agg l=>rfl
             | one hv=>exact abe fun k hk=>h2 k (cr hex (by simp) k hk)
         · rfl
    · rfl
  · rfl
theorem zf {h:HV} (ho:∀ k ∈ h.ids,o' k = o k):uz o' h = uz o h:=by
 cases h with
 | ref id n=>simp only [uz];rw [ho id (by simp [HV.ids])]
 | _=>rfl
end
end Go.Hx
end

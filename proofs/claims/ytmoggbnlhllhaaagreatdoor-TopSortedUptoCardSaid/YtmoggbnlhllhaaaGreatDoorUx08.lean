/- A part of the proof: Hx10 Hx11. -/
import Derived.Laws.IdiomStrings
import Derived.OrdersIn
import Derived.RangeFuncCalls
import Derived.RangeFuncNested
import Derived.Test.YtmoggbnlhllhaaaGreatDoorUx07
set_option linter.all false
namespace Go.Hx
section
open Go.RowKit
def a7 (P:Program) (f:FuncId) (args:List PC) (res:PR):Prop :=
 ∀ (w:World) (imm:Imm) (us:List Value),qs imm->(∀b ob,imm b=some ob->w.heap[b]? = some ob)->bz imm args us ->
  Calls P f us.toArray w fun e w'=>∃v imm',e=.returned v/\oe imm' res v/\(∀b,b<w.heap.size->imm' b=imm b)/\(∀b ob,imm' b=some ob->w'.heap[b]? = some ob)/\Below w.heap.size w w'
def a3i (o:ap):HV->Option (Prop×PV×Bool)
 | .p x=>some (True,x,false)
 | .ref id n =>
  match o id with
  |some (.arr _ s _ n' f)=>some (n'=n, .sl n s false f,true)
  |_=>none
 |_=>none
def x9 (o:ap):List HV->Option (Prop×List PV×Bool)
 | []=>some (True,[],false)
 | x::r =>
  match a3i o x,x9 o r with
  |some (p,y,b),some (q,ys,b')=>some (p/\q,y::ys,b||b')
  |_,_=>none
def a6v(o:ap):HV->Option (Prop×PV×Bool)
 | .ptr id off =>
  match o id with
  | some (.box l) =>
   match x9 o (l.drop off) with
   |some (p,ys,_)=>some (p, .vp ys.length fun j=>ys.getD j .any,true)
   |none=>none
  |_=>none
 |h=>a3i o h
def yz (o:ap):HC->Option (Prop×PC×Bool)
 | .one h=>match a6v o h with|some (p,y,b)=>some (p, .one y,b)|none=>none
 | .agg l=>match x9 o l with|some (p,ys,b)=>some (p, .agg ys,b)|none=>none
def ju (o:ap) (e:Ev):List Operand->Option (Prop×List PC×Bool)
 | []=>some (True,[],false)
 | x::r =>
  match e x,ju o e r with
  |some (.v cc),some (q,ys,b')=>match yz o cc with|some (p,y,b)=>some (p/\q,y::ys,b||b')|none=>none
  |_,_=>none
def er (caps:Nat->PV):Nat->Nat->List PC
 |0,_=>[]
 |n+1,i=>.one (caps i)::er caps n (i+1)
def PV.flat:PV->Bool
 | .raw _=>true
 | .any=>true
 |_=>false
def ahe:List PV->Bool
 | []=>true
 |x::r=>x.flat&&ahe r
def PC.flat:PC->Bool
 | .one x=>x.flat
 | .agg l=>ahe l
def abl:List PC->Bool
 | []=>true
 |x::r=>x.flat&&abl r
def PR.flat:PR->Bool
 | .v x=>x.flat
 | .tup l=>abl l
section
variable {m m':Imm}
def aq.flat {x:PV} {u:Value} (hf:x.flat=true) (h:aq m x u):aq m' x u:=by
 cases x<;>simp[PV.flat]at hf<;>exact h
def f0.flat:∀{xs:List PV} {us:List Value},ahe xs=true->f0 m xs us->f0 m' xs us
 | [],[],_,_=>trivial
 | _::_,_::_,hf,h=>by
  simp only[ahe,bm8]at hf;exact⟨h.1.flat hf.1,f0.flat hf.2 h.2⟩
 | [],_::_,_,h=>h.elim
 |_::_,[],_,h=>h.elim
def jm.flat {x:PC} {u:Value} (hf:x.flat=true) (h:jm m x u):jm m' x u:=by
 cases x with
 |one x=>exact aq.flat hf h
 |agg l=>obtain⟨us,e,hl⟩:=h;exact⟨us,e,hl.flat hf⟩
def bz.flat:∀{xs:List PC} {us:List Value},abl xs=true->bz m xs us->bz m' xs us
 | [],[],_,_=>trivial
 | _::_,_::_,hf,h=>by
  simp only[abl,bm8]at hf;exact⟨h.1.flat hf.1,bz.flat hf.2 h.2⟩
 | [],_::_,_,h=>h.elim
 |_::_,[],_,h=>h.elim
def oe.flat {x:PR} {u:Value} (hf:x.flat=true) (h:oe m x u):oe m' x u:=by
 cases x with
 |v x=>exact jm.flat hf h
 |tup l=>obtain⟨us,e,hl⟩:=h;exact⟨us,e,hl.flat hf⟩
def ec(w:World):Imm:=fun b=>w.heap[b]?
end
section
variable {P:Program}{E:Env}{w0:World}{nt:Nat}{c:Ctx}{s:S}{a:Act}{w:World}
structure yd (w0:World) (c:Ctx) (w:World) (m:Imm):Prop where
 le:Imm.le c.imm m
 new:∀b,c.frm b=none->b<w.heap.size->m b=w.heap[b]?
def qc(h:ag w0 nt c s a w):Imm.le c.imm (ec w):=fun b ob hb=>h.imm b ob hb
def aw5(h:ag w0 nt c s a w):yd w0 c w (ec w):=⟨qc h,fun _ _ _=>rfl⟩
section
variable {m:Imm}
theorem a8p (hm:yd w0 c w m) {b off:Nat} {x:Value} (hb:c.frm b=none) (hc:w.cell? ⟨b,off,none⟩=some x):gw m b off=some x:=by
 have hlt:=World.block_lt_of_cell? w _ hc;unfold World.cell? at hc;unfold gw;rw[hm.new b hb hlt]
 grind
def a8h(h:ag w0 nt c s a w)(hm:yd w0 c w m){x:HV}{u:Value}(hu:b9 c s.o x u){p:Prop}{y:PV}{b:Bool}(hv:a3i s.o x=some (p,y,b))(hp:p):
 aq m y u/\(b=false->aq c.imm y u):=by
 unfold a3i at hv;split at hv
 · simp only [bly,bm4]at hv
   obtain⟨_,rfl,rfl⟩:=hv;exact⟨aq.mono hm.le hu,fun _=>hu⟩
 · rename_i id n
   split at hv<;>try(cases hv;done)
   rename_i wr sz e n' f ho;simp only[bly,bm4]at hv;obtain⟨rfl,rfl,rfl⟩:=hv;obtain rfl:n'=n:=hp;refine⟨?_,fun hb=>by cases hb⟩;obtain⟨_,_,h3⟩:=hu;have hown:=(h3 _ _ _ _ ho rfl).2 rfl;obtain⟨h0,h1,h5⟩:=h.objs id _ ho
   rcases h5 with⟨h6,xs,h2,h4⟩|⟨h6,h7,h8⟩
   · rcases h2.2 with⟨hv,hz⟩|⟨g,cap,cur,hv,hbase,hheap,hcap,hmax,hcs,htake⟩
     · exact⟨none,0,by rw[hown,hv,hz],by omega,by simp[maxLen],(fun hh=>by cases hh),fun hn=>by omega⟩
     refine⟨_,cap,by rw[hown,hv],hcap,hmax,(fun hh=>by cases hh),fun hn=>⟨g,0,rfl,fun i j hi hj=>?_⟩⟩;obtain⟨x,hx,hr⟩:=h4 i j hi hj;have:=h2.cells (g:=g) (by rw[hv];rfl) _ _ hx;rw[d6]at this;exact⟨x,a8p hm (h.fsep id _ g ho (by rw[h6,hv];rfl)) this,aq.mono hm.le hr⟩
   obtain⟨ad,cap,q1,q2,q3,q4,q5⟩:=aq.mono hm.le h8;rw[hown];exact⟨ad,cap,q1,q2,q3,(fun hh=>by cases hh),q5⟩
 cases hv
def a07(h:ag w0 nt c s a w)(hm:yd w0 c w m):∀{xs:List HV} {us:List Value} (_:b7 c s.o xs us) {p:Prop} {ys:List PV} {b:Bool} (_:x9 s.o xs=some (p,ys,b)) (_:p),
 f0 m ys us/\(b=false->f0 c.imm ys us)
 | [],[],_,p,ys,b,hv,_=>by
  simp only[x9,bly,bm4]at hv;obtain⟨_,rfl,_⟩:=hv;exact⟨trivial,fun _=>trivial⟩
 | x :: xs,u::us,hu,p,ys,b,hv,hp=>by
  simp only[x9]at hv;split at hv<;>try(cases hv;done)
  rename_i p1 y1 b1 p2 ys2 b2 h1 h2;simp only[bly,bm4]at hv;obtain⟨rfl,rfl,rfl⟩:=hv;obtain⟨q1,q2⟩:=a8h h hm hu.1 h1 hp.1;obtain⟨q3,q4⟩:=a07 h hm hu.2 h2 hp.2
  exact ⟨⟨q1,q3⟩,fun hb=>by
   rw[Bool.or_eq_false_iff]at hb
   exact⟨q2 hb.1,q4 hb.2⟩⟩
 | [],_::_,hu,_,_,_,_,_=>hu.elim
 |_::_,[],hu,_,_,_,_,_=>hu.elim
theorem amg (h:ag w0 nt c s a w) (hm:yd w0 c w m) {x:HV} {u:Value} (hu:b9 c s.o x u) {p:Prop} {y:PV} {b:Bool} (hv:a6v s.o x=some (p,y,b)) (hp:p):
 aq m y u/\(b=false->aq c.imm y u):=by
 unfold a6v at hv;split at hv
 · rename_i id off
   split at hv<;>try(cases hv;done)
   rename_i l hl;split at hv<;>try(cases hv;done)
   rename_i q ys bb hvl;simp only[bly,bm4]at hv;obtain⟨rfl,rfl,rfl⟩:=hv;refine⟨?_,fun hb=>by cases hb⟩;obtain⟨_,_,h3⟩:=hu;obtain⟨bk,hb,rfl⟩:=h3 l hl;obtain⟨b',C,e,h1,hblk,h2,h4,h5⟩:=h.objs id _ hl;rw[hb]at h1;simp only[Value.pointer.injEq,bly,Addr.mk.injEq,and_true]at h1;subst h1;obtain⟨q1,_⟩:=a07 h hm (h5.drop off) hvl hp;refine⟨bk,off,rfl,fun j hj=>?_⟩;obtain⟨v,hv,hr⟩:=q1.get j ys[j] (blz hj);refine⟨v,a8p hm (h.fsep id _ bk hl (by rw[hblk];rfl)) ?_,by simpa [List.getD,blz hj]using hr⟩;rw[cell_of_row w bk (off+j) C e (0,0) h4]
   grind
 exact a8h h hm hu hv hp
def a8q(h:ag w0 nt c s a w)(hm:yd w0 c w m){x:HC}{u:Value}(hu:ey c s.o x u){p:Prop}{y:PC}{b:Bool}(hv:yz s.o x=some (p,y,b))(hp:p):
 jm m y u/\(b=false->jm c.imm y u):=by
 unfold yz at hv;split at hv
 · split at hv<;>try(cases hv;done)
   rename_i hvp;simp only[bly,bm4]at hv;obtain⟨rfl,rfl,rfl⟩:=hv;exact amg h hm hu hvp hp
 split at hv<;>try(cases hv;done)
 rename_i hvl;simp only[bly,bm4]at hv;obtain⟨rfl,rfl,rfl⟩:=hv;obtain⟨us,rfl,hl⟩:=hu;obtain⟨q1,q2⟩:=a07 h hm hl hvl hp;exact⟨⟨us,rfl,q1⟩,fun hb=>⟨us,rfl,q2 hb⟩⟩
def a1p(h:ag w0 nt c s a w)(hm:yd w0 c w m):∀{xs:List Operand} {p:Prop} {ys:List PC} {b:Bool} (_:ju s.o (ev s) xs=some (p,ys,b)) (_:p),
 bz m ys (xs.map a.eval)/\(b=false->bz c.imm ys (xs.map a.eval))
 | [],p,ys,b,hv,_=>by
  simp only[ju,bly,bm4]at hv;obtain⟨_,rfl,_⟩:=hv;exact⟨trivial,fun _=>trivial⟩
 | x :: xs,p,ys,b,hv,hp=>by
  simp only[ju]at hv;split at hv<;>try(cases hv;done)
  rename_i cc q ys2 b2 hx h2;split at hv<;>try(cases hv;done)
  rename_i p1 y1 b1 h1;simp only[bly,bm4]at hv;obtain⟨rfl,rfl,rfl⟩:=hv;obtain⟨q1,q2⟩:=a8q h hm (ae h hx) h1 hp.1;obtain⟨q3,q4⟩:=a1p h hm h2 hp.2
  exact ⟨⟨q1,q3⟩,fun hb=>by
   rw[Bool.or_eq_false_iff]at hb
   exact⟨q2 hb.1,q4 hb.2⟩⟩
def t7 {caps:Nat->PV}:∀(n i:Nat) (cs:List Value),cs.length=i+n->(∀j,j<i+n->∃x,cs[j]? = some x/\aq m (caps j) x)->bz m (er caps n i) (cs.drop i)
 | 0,i,cs,hl,_=>by
  rw[bpp bpw];trivial
 | n+1,i,cs,hl,h=>by
  rw[boq bpw];obtain⟨x,hx,hr⟩:=h i bpw;rw[blz bpw]at hx;simp only[bly]at hx;subst hx;exact⟨hr,t7 n (i+1) cs bpw fun j hj=>h j bpw⟩
def bz.append:∀{xs ys:List PC} {us vs:List Value},bz m xs us->bz m ys vs->bz m (xs++ys) (us++vs)
 | [],_,[],_,_,h=>h
 |_::_,_,_::_,_,h,k=>⟨h.1,bz.append h.2 k⟩
 | [],_,_::_,_,h,_=>h.elim
 |_::_,_,[],_,h,_=>h.elim
end
end
def HC.ids:HC->List Nat
 | .one h=>h.ids
 | .agg l=>iw l
def a2p:List HC->List Nat
 | []=>[]
 |x::r=>x.ids++a2p r
def HR.ids:HR->List Nat
 | .v x=>x.ids
 | .tup l=>a2p l
def aa.ids:aa->List Nat
 | .mp ..=>[]
 | .bld ..=>[]
 | .ex ..=>[]
 | .bun _=>[]
 | .opq ..=>[]
 | .box l=>iw l
 | .arr ..=>[]
 | .arrh _ _ _ ms _=>ms
 | .nest _ _ _ _ _ _ (some p)=>[p.1]
 | .nest _ _ _ _ _ _ none=>[]
theorem HC.men_ids {x:HC} {k:Nat} (h:x.men k):k∈x.ids:=by
 cases x with
 |one h'=>exact HV.men_ids h
 |agg l=>exact n9 h
def afy:∀{l:List HC} {k:Nat},(∃h∈l,h.men k)->k∈a2p l
 | [],_,⟨_,h,_⟩=>by cases h
 | x::r,k,⟨h,hm,hk⟩=>by
  rcases bm9.1 hm with rfl|hm
  · exact bmi _ (HC.men_ids hk)
  exact bmx _ (afy ⟨h,hm,hk⟩)
theorem HR.men_ids {x:HR} {k:Nat} (h:x.men k):k∈x.ids:=by
 cases x with
 |v x=>exact HC.men_ids h
 |tup l=>exact afy h
def aa.men_ids {x:aa} {k:Nat} (h:x.men k):k∈x.ids:=by
 cases x with
 |mp kk n f=>exact h.elim
 |bld fr T e l=>exact h.elim
 |ex d v b x=>exact h.elim
 |bun B=>exact h.elim
 |opq s e n R=>exact h.elim
 |box l=>exact n9 h
 |arr wr s e n f=>exact h.elim
 |arrh s e n ms f=>exact h
 |nest e et es n m g pd=>cases pd with|none=>exact h.elim|some p=>exact bmu.2 h
def cw (e:Ev):List Operand->List Nat
 | []=>[]
 |x::r=>(match e x with|some v=>v.ids|none=>[])++cw e r
structure Ann where
 id:Nat
 wb:Bool
 ex:Bool
 res:PR
 W:List Nat
 N:List Nat
 M:List Nat
def b5 (ops:Array Oper) (s:S) (o:Oper):Option Bool :=
 match o.guard with
 |none=>some true
 | some (j,want) =>
  match (ops[j]?).bind (·.dst) with
  |some d=>match s.t d with|some (.v (.one (.p (.raw (.bool b)))))=>some (b==want)|some (.tup [])=>some false|_=>none
  |none=>none
def cj (nt:Nat):Option Tmp->Bool
 |none=>true
 |some d=>decide (d<nt)
def pvN (f:Nat->PV):Nat->Nat->List PV
 |0,_=>[]
 |n+1,i=>f i::pvN f n (i+1)
def af3 {m:Imm} {f:Nat->PV}:∀(n i:Nat) (cs:List Value),cs.length=i+n->(∀j,j<i+n->∃x,cs[j]? = some x/\aq m (f j) x)->f0 m (pvN f n i) (cs.drop i)
 | 0,i,cs,hl,_=>by
  rw[bpp bpw];trivial
 | n+1,i,cs,hl,h=>by
  obtain⟨x,hx,hr⟩:=h i bpw;have hlt:i<cs.length:=by omega
  rw[boq hlt];rw[blz hlt]at hx;simp only[bly]at hx;rw[hx];exact⟨hr,af3 n (i+1) cs bpw fun j hj=>h j bpw⟩
def callee (e:Ev) (cl:Call):Option (FuncId×List PC×List PC) :=
 match cl.callee with
 | .value f =>
  match e f with
  |some (.v (.one (.p (.fn g k caps))))=>some (g,[],er caps k 0)
  |some (.v (.one (.p (.bnd g m fr))))=>some (g,[.agg (pvN fr m 0)],[])
  |_=>none
 |_=>none
def adf (caps:Nat->HV):Nat->Nat->List HC
 |0,_=>[]
 |n+1,i=>.one (caps i)::adf caps n (i+1)
def ul (e:Ev) (cl:Call):Option (FuncId×List HC) :=
 match cl.callee with
 | .value f =>
  match e f with
  |some (.v (.one (.p (.fn g k caps))))=>some (g,(er caps k 0).map PC.toH)
  |some (.v (.one (.clo g k caps)))=>some (g,adf caps k 0)
  |_=>none
 |_=>none
def bh7(P:Program)(f:FuncId)(args:List PC)(res:PR):Prop:=∀(m:Imm) (us:List Value) (w:World),bz m args us->∃v,(callFunc f us.toArray).run P w=.ok (.value v) w/\oe m res v
def a6 (P : Program) (f : FuncId) : Prop := ∃ fn, P.funcs[f]? = some fn /\ (fn.name == "runtime.NumGoroutine") = false /\ fn.body.isNone = false
theorem S.setW_one (s:S) (id:Nat) (ob:aa):s.setW [(id,some ob)]=s.setO id (some ob):=by
 unfold S.setW S.setO;simp only[S.mk.injEq,true_and];funext k;by_cases hk:k=id
 · subst hk;simp[gn]
 have:Nat.beq id k=false:=by
  rw[bmh];exact fun hb=>hk (bmt hb).symm
 simp[gn,this,hk]
theorem S.setW_none (s:S) (id:Nat):s.setW [(id,none)]=s.setO id none:=by
 unfold S.setW S.setO;simp only[S.mk.injEq,true_and];funext k;by_cases hk:k=id
 · subst hk;simp[gn]
 have:Nat.beq id k=false:=by
  rw[bmh];exact fun hb=>hk (bmt hb).symm
 simp[gn,this,hk]
def qu (e:Ev):List Operand->Option (List HC)
 | []=>some []
 | x::r =>
  match e x,qu e r with
  |some (.v cc),some l=>some (cc::l)
  |_,_=>none
def a9x:List (Nat×aa)->List Nat
 | []=>[]
 |(_,x)::r=>x.ids++a9x r
theorem ai6 (w:World) (o:Obj) {k:Nat} (h:k<w.heap.size):(w.drew.alloc o).heap[k]? = w.heap[k]?:=by
 show(w.heap.push o)[k]? = w.heap[k]?
 grind
def ar1(b:ByteArray):Nat->Nat->PV:=fun i _=>.raw (.int .u8 (ce b i))
def ac6(E:Env)(e:Ev)(sr ds:TypeId)(x:Operand):Option ByteArray :=
 match E sr,E ds,e x with
 | some ti,some td,some (.v (.one (.p (.raw (.string b))))) =>
  match ti.k,td.k with
  | .string, .slice el =>
   match E el with
   |some ei=>match ei.k with | .int .u8=>some b|_=>none
   |none=>none
  |_,_=>none
 |_,_,_=>none
inductive Eff (P:Program) (E:Env) (nt:Nat) (ops:Array Oper) (o:Oper) (an:Ann) (s:S):Option HR->Wr->Prop where
 |cut (out:Out) (id:Nat) (hw:b5 ops s o=some true) (hd:cj nt o.dst=true) (hq':xc E s.o (ev s) o.op=some (out,id)) (hp:out.pre) (hW:an.W=[id]):Eff P E nt ops o an s (some out.val) [(id,none)]
 |skip (hw:b5 ops s o=some false) (hd:cj nt o.dst=true):Eff P E nt ops o an s (some (.tup [])) []
 |quiet (out:Out) (hw:b5 ops s o=some true) (hd:cj nt o.dst=true) (hq':hq E an.ex s.o (ev s) o.op=some out) (hp:out.pre) (hM:out.val.ids=an.M):Eff P E nt ops o an s (some out.val) []
 | make (nw:New) (hw:b5 ops s o=some true) (hd:cj nt o.dst=true) (hq':ha E (ev s) an.id o.op=some nw) (hp:nw.pre) (hm:NM s an.id) (hn:s.o an.id=none)
  (hW:an.W=[an.id]) (hN:an.N=[an.id]) (hM:nw.val.ids++nw.ob.ids=an.M):Eff P E nt ops o an s (some nw.val) [(an.id,some nw.ob)]
 |store (u:Upd) (hw:b5 ops s o=some true) (hd:cj nt o.dst=true) (hq':hs E s.o (ev s) o.op=some u) (hp:u.pre) (hW:an.W=[u.id]) (hM:∀k∈u.ob.ids,k∈an.M):Eff P E nt ops o an s none [(u.id,some u.ob)]
 | app (u:App) (hw:b5 ops s o=some true) (hd:cj nt o.dst=true) (hq':hap E s.o (ev s) an.id an.wb o.op=some u) (hp:u.pre) (hn:u.new=true->NM s an.id/\s.o an.id=none)
  (hW:an.W=[u.id]) (hN:u.new=true->an.N=[an.id]) (hM:u.val.ids++u.ob.ids=an.M):Eff P E nt ops o an s (some u.val) [(u.id,some u.ob)]
 | call (cl:Call) (f:FuncId) (fst caps args:List PC) (p:Prop) (vs:List PC) (b:Bool) (hw:b5 ops s o=some true) (hd:cj nt o.dst=true) (ho:o.op=.call cl) (hc:callee (ev s) cl=some (f,fst,caps)) (hf:(a6 P f/\a7 P f args an.res)\/bh7 P f args an.res)
  (hv:ju s.o (ev s) cl.args.toList=some (p,vs,b)) (hp:p) (hco:CoL (fst++(vs++caps)) args) (hpure:True) (hb:(!b||an.res.flat)=true) (hM:an.M=[]):Eff P E nt ops o an s (some an.res.toH) []
 | conv (sr ds:TypeId) (x:Operand) (b:ByteArray) (hw:b5 ops s o=some true) (hd:cj nt o.dst=true) (ho:o.op=.convert sr ds x) (hcv:ac6 E (ev s) sr ds x=some b) (hp:b.size<=maxLen) (hM:an.M=[]) :
  Eff P E nt ops o an s (some (.v (.one (.p (.sl b.size 1 false (ar1 b)))))) []
 | fcall (cl:Call) (f:FuncId) (caps:List HC) (args hcs:List HC) (o1 o2:List (Nat×aa)) (res:HR) (fx:List Nat) (hw:b5 ops s o=some true) (hd:cj nt o.dst=true) (ho:o.op=.call cl) (hc:ul (ev s) cl=some (f,caps)) (hf:a6 P f)
  (hv:qu (ev s) cl.args.toList=some hcs) (hco:tw (hcs++caps) args) (hfun:dg P f args o1 res o2 fx) (hsub:∀id ob,lk o1 id=some ob->∃ob',s.o id=some ob'/\CoO ob' ob)
  (hnew:∀id∈keys o2,id∉keys o1->s.o id=none) (hnm:∀id∈keys o2,id∉fx\/id∉keys o1->NMx s (keys o1++keys o2) id) (hcl:∀id ob,lk o2 id=some ob->∀k,ob.men k->k∈keys o2) (hclr:∀k,res.men k->k∈keys o2)
  (hW:an.W=keys o1++keys o2) (hN:∀id∈keys o2,id∉fx\/id∉keys o1->id∈an.N) (hM:an.M=res.ids++a9x o2):Eff P E nt ops o an s (some res) (ww o1 o2)
def ajm:∀(l:List PV),iw (l.map .p)=[]
 | []=>rfl
 |_::r=>by simp[iw,HV.ids,ajm r]
def adv:∀(l:List PC),a2p (l.map PC.toH)=[]
 | []=>rfl
 | .one _::r=>by simp[a2p,HC.ids,PC.toH,HV.ids,adv r]
 | .agg l::r=>by simp[a2p,HC.ids,PC.toH,ajm l,adv r]
theorem PR.ids_toH (x:PR):x.toH.ids=[]:=by
 cases x with
 |v x=>cases x<;>simp[PR.toH,HR.ids,PC.toH,HC.ids,HV.ids,ajm]
 |tup l=>simp[PR.toH,HR.ids,adv]
def S.after(s:S)(d:Option Tmp)(x:Option HR)(wr:Wr):S:=(s.setW wr).putD d x
def rf(ro:Option Nat):Fence:={ fn:=fun _=>True,depth:=none,alive:=false,round:=ro }
section
variable {P:Program}{ro:Option Nat}
def asa{n:Nat}{f:FuncId}{args:Array Value}{w:World}{R:Ending->World->Prop}(h:Calls P f args w R):CallsIn (rf ro) n P f args w R:=(callsIn_wide (n:=n)).2 h
def auz {n:Nat} {row:String} {args:Array Value} {w:World} {R:Value->World->Prop} (h:Rows P row args w R):RowsIn (rf ro) n P row args w R:=fun c cs _=>by
 obtain⟨v,w',r,s⟩:=h c cs;exact⟨v,w',r,stepsIn_wide.2 s⟩
def vk{n:Nat}{o:Oper}{a:Act}{w:World}{K:Act->World->Prop}{Q:Exit->Act->World->Prop}(hnd:∀c,o.op≠.defer c)(h:o.wp P a w K Q):o.wpIn (rf ro) n P a w K Q:=by
 refine⟨fun _ _=>trivial, ?_⟩;rw[Oper.semAt_eq _ _ _ hnd];unfold Oper.wp at h;generalize (execOp a.eval o).run P w=r at *
 cases r with
 | ok x w' =>
  cases x<;>simp only[Oper.upon,Oper.uponIn]at h ⊢ <;>
   first
    |exact h
    |exact⟨(fun hh=>absurd hh (by simp[rf])),asa h⟩
    |exact⟨(fun hh=>absurd hh (by simp[rf])),auz h⟩
    |exact h.elim
 |halt x w'=>cases x<;>simp only[Oper.upon,Oper.uponIn]at h ⊢<;>first|exact h|exact h.elim
def aq1 (P:Program) (ops:Array Oper) (Q:Exit->Act->World->Prop) (i:Nat) (K:Act->World->Prop) (a:Act) (w:World):Prop :=
 match ops[i]? with
 |none=>K a w
 |some o=>if Region.wanted o (yielded ops a.tmps)then o.wp P a w K Q else K (a.put o.dst undef) w
theorem Eff.nd {E:Env} {nt:Nat} {ops:Array Oper} {o:Oper} {an:Ann} {s:S} {x:Option HR} {wr:Wr} (he:Eff P E nt ops o an s x wr):b5 ops s o=some false\/∀c,o.op≠.defer c:=by
 cases he with
 |skip hw hd=>exact .inl hw
 |cut out id hw hd hq' hp hW=>exact .inr fun c hc=>by rw[hc]at hq';cases hq'
 |quiet out hw hd hq' hp hM=>exact .inr fun c hc=>by rw[hc]at hq';cases hq'
 |make nw hw hd hq' hp hm hn hW hN hM=>exact .inr fun c hc=>by rw[hc]at hq';cases hq'
 |store u hw hd hq' hp hW hM=>exact .inr fun c hc=>by rw[hc]at hq';cases hq'
 |app u hw hd hq' hp hn hW hN hM=>exact .inr fun c hc=>by rw[hc]at hq';cases hq'
 |call cl f fst caps args p vs b hw hd ho hc hf hv hp hco hpure hb hM=>exact .inr fun c hc=>by rw[hc]at ho;cases ho
 |conv sr ds x b hw hd ho hcv hp hM=>exact .inr fun c hc=>by rw[hc]at ho;cases ho
 |fcall cl f caps args hcs o1 o2 res fx hw hd ho hc hf hv hco hfun hsub hnew hnm hcl hclr hW hN hM=>exact .inr fun c hc=>by rw[hc]at ho;cases ho
end
section
variable {P:Program}{E:Env}{w0:World}{m0:Old}{nt:Nat}{s:S}{a:Act}{w:World}{ops:Array Oper}{o:Oper}{an:Ann}
def gc (h:cj nt o.dst=true):∀k,o.dst=some k->k<nt:=by
 intro k hk;rw[hk]at h;exact of_decide_eq_true h
theorem dy {c:Ctx} (h:ag w0 nt c s a w) {b:Bool} (hw:b5 ops s o=some b):Region.wanted o (yielded ops a.tmps)=b:=by
 unfold b5 at hw;unfold Region.wanted;split at hw
 · grind
 rename_i j want hg;rw[hg];split at hw<;>try(cases hw;done)
 rename_i d hd;split at hw<;>try(cases hw;done)
 rotate_left
 · rename_i hb
   simp only[bly]at hw;obtain⟨us,e1,e2⟩:=h.tmps d _ hb
   have e3:us=[]:=by cases us with|nil=>rfl|cons=>exact e2.elim
   subst e3;show(yielded ops a.tmps j==some want)=b
   have hy:yielded ops a.tmps j=none:=by
    unfold yielded;rw[hd];simp only[Option.bind_some]
    rcases bpk d a.tmps.size with h'|h'
    · simp_all
    grind
   grind
 rename_i bb hb;simp only[bly]at hw;obtain⟨e1,_⟩:=h.tmps d _ hb
 have hsz:d<a.tmps.size:=by
  rcases bpk d a.tmps.size with h'|h'
  · exact h'
  have:a.tmps.getD d undef=undef:=by simp[bp3 h']
  rw[this]at e1;cases e1
 have:a.tmps[d]? = some (.bool bb):=by
  simp_all
 have hy:yielded ops a.tmps j=some bb:=by
  unfold yielded
  grind
 simp_all
def bu.append {c:Ctx} {o:ap}:∀{xs ys:List HC} {us vs:List Value},bu c o xs us->bu c o ys vs->bu c o (xs++ys) (us++vs)
 | [],_,[],_,_,h=>h
 |_::_,_,_::_,_,h,k=>⟨h.1,bu.append h.2 k⟩
 | [],_,_::_,_,h,_=>h.elim
 |_::_,_,[],_,h,_=>h.elim
def a43 {c:Ctx} {o:ap} {caps:Nat->HV}:∀(n i:Nat) (cs:List Value),cs.length=i+n->(∀j,j<i+n->∃x,cs[j]? = some x/\b9 c o (caps j) x)->bu c o (adf caps n i) (cs.drop i)
 | 0,i,cs,hl,_=>by
  rw[bpp bpw];trivial
 | n+1,i,cs,hl,h=>by
  rw[boq bpw];obtain⟨x,hx,hr⟩:=h i bpw;rw[blz bpw]at hx;simp only[bly]at hx;subst hx;exact⟨hr,a43 n (i+1) cs bpw fun j hj=>h j bpw⟩
def a8a {c:Ctx} (h:ag w0 nt c s a w):∀{l:List Operand} {hcs:List HC},qu (ev s) l=some hcs->bu c s.o hcs (l.map a.eval)
 | [],hcs,hv=>by
  simp only[qu,bly]at hv;subst hv;trivial
 | x::r,hcs,hv=>by
  simp only[qu]at hv;split at hv<;>try(cases hv;done)
  rename_i cc l e1 e2;simp only[bly]at hv;subst hv;exact⟨ae h e1,a8a h e2⟩
section
variable {K:Act->World->Prop}{Q:Exit->Act->World->Prop}
theorem aqs(hE:ck P E){x:Option HR}{wr:Wr}(he:Eff P E nt ops o an s x wr)(h:Rel w0 m0 nt s a w){i:Nat}(hi:ops[i]? = some o)(hK:∀a' w',Rel w0 m0 nt (s.after o.dst x wr) a' w'->K a' w'):aq1 P ops Q i K a w:=by
 obtain⟨c,hold,h⟩:=h;unfold aq1;simp only[hi]
 cases he with
 | cut out id hw hd hq' hp hW =>
  rw[if_pos (dy h hw)];obtain⟨v,c',h1,hold',h2,h3⟩:=amc hE h hq' hp;unfold Oper.wp;rw[h1];refine hK _ _ ⟨c',hold'.trans hold, ?_⟩
  have e:s.after o.dst (some out.val) [(id,none)]=(s.setO id none).putD o.dst (some out.val):=by
   unfold S.after;rw[S.setW_none]
  rw[e]
  exact h2.putD o.dst (gc hd) (some out.val) v (fun y hy=>by
   simp only[bly]at hy;subst hy
   exact h3)
 | skip hw hd =>
  rw[if_neg (by rw[dy h hw];simp)];exact hK _ _ ⟨c,hold,h.putD o.dst (gc hd) (some (.tup [])) undef (fun y hy=>by cases hy;exact⟨[],rfl,trivial⟩)⟩
 | quiet out hw hd hq' hp hM =>
  rw[if_pos (dy h hw)];obtain⟨v,h1,h2⟩:=alc hE h hq' hp;unfold Oper.wp;rw[h1]
  exact hK _ _ ⟨c,hold,h.putD o.dst (gc hd) (some out.val) v (fun y hy=>by
   simp only[bly]at hy;subst hy
   exact h2)⟩
 | make nw hw hd hq' hp hm hn hW hN hM =>
  rw[if_pos (dy h hw)];obtain⟨v,w',c',h1,ho',h2,h3⟩:=axk hE h hq' hp hm hn;have hold':=ho'.trans hold;unfold Oper.wp;rw[h1]
  exact hK _ _ ⟨c',hold',(by unfold S.after;rw[S.setW_one];exact h2.putD o.dst (gc hd) (some nw.val) v (fun y hy=>by
   simp only[bly]at hy;subst hy
   exact h3))⟩
 | store u hw hd hq' hp hW hM =>
  rw[if_pos (dy h hw)];obtain⟨w',c',h1,ho',h2⟩:=ax4 hE h hq' hp;have hold':=ho'.trans hold;unfold Oper.wp;rw[h1];exact hK _ _ ⟨c',hold',(by unfold S.after;rw[S.setW_one];exact h2.putD o.dst (gc hd) none undef (fun y hy=>by cases hy))⟩
 | app u hw hd hq' hp hn hW hN hM =>
  rw[if_pos (dy h hw)];obtain⟨v,w',c',h1,⟨ho',h2⟩,h3⟩:=avu hE h hq' hp hn;have hold':=ho'.trans hold;unfold Oper.wp;rw[h1]
  exact hK _ _ ⟨c',hold',(by unfold S.after;rw[S.setW_one];exact h2.putD o.dst (gc hd) (some u.val) v (fun y hy=>by
   simp only[bly]at hy;subst hy
   exact h3))⟩
 | conv sr ds x b hw hd ho hcv hp hM =>
  rw[if_pos (dy h hw)];unfold ac6 at hcv;split at hcv<;>try(cases hcv;done)
  rename_i ti td b' e1 e2 e3;split at hcv<;>try(cases hcv;done)
  rename_i el e4 e5;split at hcv<;>try(cases hcv;done)
  rename_i ei e6;split at hcv<;>try(cases hcv;done)
  rename_i e7;simp only[bly]at hcv;subst hcv;obtain⟨_,d1,_,p1,q1,_⟩:=ay (hE sr ti e1);obtain⟨_,d2,_,p2,q2,_⟩:=ay (hE ds td e2);obtain⟨_,d3,_,p3,q3,_⟩:=ay (hE el ei e6);have r1:d1=.string:=by rw[e4]at q1;cases d1<;>simp[gu]at q1 ⊢
  have r2:d2=.slice el:=dw (q2.symm.trans e5)
  have r3:d3=.int .u8:=by
   rw[e7]at q3;cases d3<;>simp[gu]at q3 ⊢;exact q3.symm
  subst r1 r2 r3;have hev:a.eval x=.string b':=(ae h e3).1;have hrun:=run_bytes_of_string (P:=P) w sr ds el b' p1 p2 p3
  have hex:(execOp a.eval o).run P w=.ok (.value (.slice (some ⟨w.heap.size,0,none⟩) b'.size (grownCap w b'.size 0 el)))
   (w.drew.alloc (.cells (bytesRow b' (grownCap w b'.size 0 el)) el ((bytesRow b' (grownCap w b'.size 0 el)).size,(bytesRow b' (grownCap w b'.size 0 el)).size+1))):=by
   unfold execOp;simp_all
  unfold Oper.wp;rw[hex];generalize hob:Obj.cells (bytesRow b' (grownCap w b'.size 0 el)) el ((bytesRow b' (grownCap w b'.size 0 el)).size,(bytesRow b' (grownCap w b'.size 0 el)).size+1)=ob
  have h':=h.later (w.drew.alloc ob) ⟨rfl,rfl,rfl,by simp,fun k hk=>ai6 w _ hk,bpg _⟩ (fun k=>if k=w.heap.size then some ob else c.imm k) (fun k hk=>if_neg bpw) (fun k ob' hk=>by
   by_cases hkk:k=w.heap.size
   · rw [if_pos hkk]at hk
     rw[hkk,<- Option.some.inj hk];exact heap_alloc_new w.drew _
   rw[if_neg hkk]at hk;have hw':=h.imm k ob' hk
   exact(ai6 w _ (bm5.1 hw').1).trans hw')
  refine hK _ _ ⟨_,by exact hold,h'.putD o.dst (gc hd) (some (.v (.one (.p (.sl b'.size 1 false (ar1 b')))))) _ (fun y hy=>?_)⟩;simp only[bly]at hy;subst hy;refine⟨some ⟨w.heap.size,0,none⟩,_,rfl,grownCap_ge w _ _ _,grownCap_le_maxLen w _ _ _ hp,(fun hf=>by cases hf),fun _=>⟨w.heap.size,0,rfl,fun i j hi hj=>?_⟩⟩;obtain rfl:j=0:=by omega
  refine⟨.int .u8 (ce b' i), ?_,rfl,rfl⟩;unfold gw;dsimp only;rw[if_pos rfl,<- hob];dsimp only;unfold bytesRow ce;have hsz:b'.data.size=b'.size:=rfl;rw[Array.getElem?_append_left bqa]
  grind
 | call cl f fst caps args p vs b hw hd ho hc hf hv hp hco hpure hb hM =>
  rw[if_pos (dy h hw)];obtain⟨q1,q2⟩:=a1p h (aw5 h) hv hp
  obtain ⟨fo,us,cs,hcal,e1,hfst,hcapr⟩:∃(fo:Operand) (us cs:List Value),cl.callee=.value fo/\a.eval fo=.func (.func f) us.toArray cs.toArray/\(∀m:Imm,Imm.le c.imm m->bz m fst us)/\∀m:Imm,Imm.le c.imm m->bz m caps cs:=by
   unfold callee at hc;split at hc<;>try(cases hc;done)
   rename_i fo hcal;split at hc<;>try(cases hc;done)
   · rename_i g k capf hfo
     simp only[bly,bm4]at hc;obtain⟨rfl,rfl,rfl⟩:=hc;obtain⟨cs,e1,hcl,hcr⟩:=ae h hfo;refine⟨fo,[],cs,hcal,e1,fun _ _=>trivial,fun m hm=>?_⟩
     have:=t7 (m:=m) (caps:=capf) k 0 cs bpw (fun j hj=>by
      obtain⟨x,hx,hr⟩:=hcr j bpw
      exact⟨x,hx,aq.mono hm hr⟩)
     grind
   rename_i g k fr hfo;simp only[bly,bm4]at hc;obtain⟨rfl,rfl,rfl⟩:=hc;obtain⟨cs,e1,hcl,hcr⟩:=ae h hfo;refine⟨fo,[.agg cs.toArray],[],hcal,e1,fun m hm=>⟨⟨cs,rfl, ?_⟩,trivial⟩,fun _ _=>trivial⟩
   have:=af3 (m:=m) (f:=fr) k 0 cs bpw (fun j hj=>by
    obtain⟨x,hx,hr⟩:=hcr j bpw
    exact⟨x,hx,aq.mono hm hr⟩)
   grind
  rcases hf with⟨⟨fn,hfn,hname,hbody⟩,hpure⟩|hx
  ·
   have hrun:(execOp a.eval o).run P w=.ok (.enter f (us++((cl.args.toList.map a.eval)++cs)).toArray) w:=by
    unfold execOp;simp only[ho,resolve,hcal,bmz,e1,Deferred.ofValue,bnh,bmf,invoke,callFunc,run_program,hfn,hname,hbody];simp
   unfold Oper.wp;rw[hrun];rw[Oper.upon_enter]
   cases hbb:b with
   | false =>
    have hargs:bz c.imm args (us++(cl.args.toList.map a.eval++cs)):=CoL.sound hco (bz.append (hfst _ (Imm.le.refl _)) (bz.append (q2 hbb) (hcapr _ (Imm.le.refl _))));refine(hpure w c.imm _ c.tab h.imm hargs).mono ?_;rintro e w' ⟨v,imm',rfl,hr,h1,h2,h3⟩;have h':=h.later w' h3 imm' h1 h2
    exact hK _ _ ⟨_,by exact hold,h'.putD o.dst (gc hd) (some an.res.toH) v (fun y hy=>by
     simp only[bly]at hy;subst hy
     exact ak.of_P hr)⟩
   | true =>
    have hflat:an.res.flat=true:=by rw[hbb]at hb;simpa using hb
    have hargs:bz (ec w) args (us++(cl.args.toList.map a.eval++cs)):=CoL.sound hco (bz.append (hfst _ (qc h)) (bz.append q1 (hcapr _ (qc h))));refine(hpure w (ec w) _ (c.tab.mono (qc h)) (fun _ _ hh=>hh) hargs).mono ?_;rintro e w' ⟨v,imm',rfl,hr,h1,h2,h3⟩
    have h':=h.later w' h3 (fun b=>if b<w.heap.size then c.imm b else none) (fun b hb=>by simp[hb]) (fun b ob hbo=>by
     by_cases hlt:b<w.heap.size
     · simp only [hlt,if_true]at hbo
       rw[h3.block b hlt];exact h.imm b ob hbo
     simp[hlt]at hbo)
    exact hK _ _ ⟨_,by exact hold,h'.putD o.dst (gc hd) (some an.res.toH) v (fun y hy=>by
     simp only[bly]at hy;subst hy
     exact ak.of_P (oe.flat hflat hr))⟩
  have hstep:∀v,(callFunc f (us++((cl.args.toList.map a.eval)++cs)).toArray).run P w=.ok (.value v) w->(execOp a.eval o).run P w=.ok (.value v) w:=fun v hv2=>by
   rw[<- hv2];unfold execOp;simp only[ho,resolve,hcal,bmz,e1,Deferred.ofValue,bnh,bmf,invoke];simp;congr 2;apply Array.ext';simp
  cases hbb:b with
  | false =>
   have hargs:bz c.imm args (us++(cl.args.toList.map a.eval++cs)):=CoL.sound hco (bz.append (hfst _ (Imm.le.refl _)) (bz.append (q2 hbb) (hcapr _ (Imm.le.refl _))));obtain⟨v,hv2,hr⟩:=hx c.imm _ w hargs;unfold Oper.wp;rw[hstep v hv2]
   exact hK _ _ ⟨_,by exact hold,h.putD o.dst (gc hd) (some an.res.toH) v (fun y hy=>by
    simp only[bly]at hy;subst hy
    exact ak.of_P hr)⟩
  | true =>
   have hflat:an.res.flat=true:=by rw[hbb]at hb;simpa using hb
   have hargs:bz (ec w) args (us++(cl.args.toList.map a.eval++cs)):=CoL.sound hco (bz.append (hfst _ (qc h)) (bz.append q1 (hcapr _ (qc h))));obtain⟨v,hv2,hr⟩:=hx (ec w) _ w hargs;unfold Oper.wp;rw[hstep v hv2]
   exact hK _ _ ⟨_,by exact hold,h.putD o.dst (gc hd) (some an.res.toH) v (fun y hy=>by
    simp only[bly]at hy;subst hy
    exact ak.of_P (oe.flat hflat hr))⟩
 | fcall cl f caps args hcs o1 o2 res fx hw hd ho hc hf hv hco hfun hsub hnew hnm hcl hclr hW hN hM =>
  rw[if_pos (dy h hw)];unfold ul at hc;split at hc<;>try(cases hc;done)
  rename_i fo hcal;obtain⟨fn,hfn,hname,hbody⟩:=hf
  obtain ⟨cs,e1,hcapr⟩:∃cs:List Value,a.eval fo=.func (.func f) #[] cs.toArray/\bu c s.o caps cs:=by
   split at hc<;>try(cases hc;done)
   · rename_i g k capf hfo
     simp only[bly,bm4]at hc;obtain⟨rfl,rfl⟩:=hc;obtain⟨cs,e1,hcl',hcr⟩:=ae h hfo;refine⟨cs,e1, ?_⟩
     have:=t7 (m:=c.imm) (caps:=capf) k 0 cs bpw (fun j hj=>by
      obtain⟨x,hx,hr⟩:=hcr j bpw
      exact⟨x,hx,hr⟩)
     exact bu.of_P (by simpa using this)
   rename_i g k capf hfo;simp only[bly,bm4]at hc;obtain⟨rfl,rfl⟩:=hc;obtain⟨cs,e1,hcl',hcr⟩:=ae h hfo;refine⟨cs,e1, ?_⟩;have:=a43 (c:=c) (o:=s.o) (caps:=capf) k 0 cs bpw (fun j hj=>hcr j bpw);simp_all
  have hrun:(execOp a.eval o).run P w=.ok (.enter f ((cl.args.toList.map a.eval)++cs).toArray) w:=by
   unfold execOp;simp only[ho,resolve,hcal,bmz,e1,Deferred.ofValue,bnh,bmf,invoke,callFunc,run_program,hfn,hname,hbody];simp
  have hargs:bu c s.o args (cl.args.toList.map a.eval++cs):=bu.co hco (bu.append (a8a h hv) hcapr);obtain⟨hmem,hto⟩:=h.lend hsub;unfold Oper.wp;rw[hrun];rw[Oper.upon_enter];refine(hfun w c _ hmem (hto _ _ hargs)).mono ?_;rintro e w' ⟨v,c',rfl,hr,hm',hbel,hfr,hbk,hfx⟩;obtain⟨c'',q1,_,q2,q3⟩:=h.fcall hsub (fun id h2 h1=>hnew id h2 h1) (fun id h2 h1=>hnm id h2 h1) hcl hm' hbel hfr hbk hfx
  exact hK _ _ ⟨c'',q1.trans hold,q2.putD o.dst (gc hd) (some res) v (fun y hy=>by
   simp only[bly]at hy;subst hy
   exact q3 _ _ hr hclr)⟩
def a4i(hE:ck P E){ro:Option Nat}{n:Nat}{x:Option HR}{wr:Wr}(he:Eff P E nt ops o an s x wr)(h:Rel w0 m0 nt s a w){i:Nat}(hi:ops[i]? = some o)(hK:∀a' w',Rel w0 m0 nt (s.after o.dst x wr) a' w'->K a' w'):wpOpIn (rf ro) n P ops Q i K a w:=by
 have h1:=aqs hE he h hi (Q:=Q) hK;unfold aq1 at h1;unfold wpOpIn;simp only[hi]at h1 ⊢;obtain⟨c,hold,hr⟩:=h
 rcases he.nd with hn|hn
 · have hw:=dy hr hn
   rw[if_neg (by rw[hw];simp)]at h1 ⊢;exact⟨fun _ _=>trivial,h1⟩
 split
 · rename_i hw
   rw[if_pos hw]at h1;exact vk hn h1
 rename_i hw;rw[if_neg hw]at h1;exact⟨fun _ _=>trivial,h1⟩
end
end
end
section
open Go.RowKit
section
variable {E:Env}{ex:Bool}{o o':ap}{e e':Ev}
section
variable {x:Operand}
def ef {r:HR} (hx:e x=some r):∀{l:List Operand},x∈l->∀k∈r.ids,k∈cw e l
 | y::l,hm,k,hk=>by
  rcases bm9.1 hm with rfl|hm
  · simp only[cw,hx];exact bmi _ hk
  simp only[cw];exact bmx _ (ef hx hm k hk)
def qk:∀{l:List Operand},(∀x∈l,e' x=e x)->cw e' l=cw e l
 | [],_=>rfl
 | x::l,h=>by
  simp only[cw];rw[h x bpz,qk fun y hy=>h y (by simp[hy])]
def bq6{p:Prop}(h:p:=by simp[HV.ids]):p:=h
variable {h:HV}
def a06 (ho:∀k∈h.ids,o' k=o k):tgt o' h=tgt o h:=by
 cases h with
 |p x=>cases x<;>rfl
 |ref id n=>rfl
 |ptr id off=>simp only[tgt];rw[ho id bq6]
 |eptr id n i j=>simp only[tgt];rw[ho id bq6]
 |win id n i m=>rfl
 |clo g k caps=>rfl
 |row id i k=>rfl
 |rptr id i k r j=>simp only[tgt];rw[ho id bq6]
 |pin id n ad cap=>rfl
def a0k {places:List (Nat×Nat)}:∀{parts:List (Nat×Operand)} {cells:List HV},(∀x∈parts.map (·.2),e' x=e x)->go e' places cells parts=go e places cells parts
 | [],_,_=>rfl
 | (i,x)::r,cells,h=>by
  have hx:=h x bpz;have ih:∀cells,go e' places cells r=go e places cells r:=fun cells=>a0k fun y hy=>h y (by simp at hy ⊢;exact .inr hy);simp only[go,hx,ih]
def a8k:∀{l:List Operand},(∀x∈l,e' x=e x)->zh e' l=zh e l
 | [],_=>rfl
 | x::l,h=>by
  simp only[zh];rw[h x bpz,a8k fun y hy=>h y (by simp[hy])]
def a8y:∀{l:List Operand},(∀x∈l,e' x=e x)->zo e' l=zo e l
 | [],_=>rfl
 | x::l,h=>by
  simp only[zo];rw[h x bpz,a8y fun y hy=>h y (by simp[hy])]
def mn {x:Option Operand} (h:∀y∈x.toList,e' y=e y):iu e' x=iu e x:=by
 cases x with
 |none=>rfl
 |some y=>simp only[iu];rw[h y bpz]
def aby{b:Builtin}{args:List Operand}{tys:List TypeId}(h:∀x∈args,e' x=e x):sq E e' b args tys=sq E e b args tys:=by
 unfold sq;split
 · rename_i x t r
   rw[h x bpz]
 · rename_i x y
   rw[h x bpz,h y bpz]
 · rename_i x y
   rw[h x bpz,h y bpz]
 rfl
def aqv (ho:∀k∈h.ids,o' k=o k):a5b o' h=a5b o h:=by
 cases h with
 |ref id n=>simp only[a5b];rw[ho id bq6]
 |win id n i m=>simp only[a5b];rw[ho id bq6]
 |row id i k=>simp only[a5b];rw[ho id bq6]
 |_=>rfl
variable {n:Nat}
def ar7 {i:Int} (ho:∀k∈h.ids,o' k=o k):aa7 o' n i h=aa7 o n i h:=by
 cases h with
 |ref id n=>simp only[aa7];rw[ho id bq6]
 |win id n i m=>simp only[aa7];rw[ho id bq6]
 |row id i k=>simp only[aa7];rw[ho id bq6]
 |p x=>cases x<;>rfl
 |_=>rfl
def ai7 {x y z:Option Int} (ho:∀k∈h.ids,o' k=o k):ym o' n x y z h=ym o n x y z h:=by
 cases h with
 |ref id n=>simp only[ym];rw[ho id bq6]
 |win id n i m=>simp only[ym];rw[ho id bq6]
 |_=>rfl
def afi{l:List Operand}{F:ap->HV->Option Out}{α:Type}{d:α}{G:Option Out->α}(hF:∀h:HV,(∀k∈h.ids,o' k=o k)->F o' h=F o h)(hl:x∈l)(ho:∀k∈cw e l,o' k=o k):
 (match e x with|some (.v (.one h))=>G (F o' h)|_=>d)=(match e x with|some (.v (.one h))=>G (F o h)|_=>d):=by
 cases hex:e x with
 |none=>rfl
 | some r =>
  cases r with
  |tup l=>rfl
  | v cc =>
   cases cc with
   |agg l=>rfl
   | one h =>
    dsimp only;rw[hF h fun k hk=>ho k (ef hex hl k hk)]
def adp{b:Builtin}{args:List Operand}{tys:List TypeId}(h:∀x∈args,e' x=e x)(ho:∀k∈cw e args,o' k=o k):uy E o' e' b args tys=uy E o e b args tys:=by
 unfold uy;split
 · rename_i x t r
   rw[h x bpz]
   cases E t with
   |none=>rfl
   | some ti =>
    dsimp only;cases ti.k<;>try rfl
    exact afi (G:=id) (F:=a5b) (fun h hh=>aqv hh) bpz ho
 rfl
def amh(ho:∀k∈cw e [x],o' k=o k):qt o' e x=qt o e x:=by
 unfold qt
 cases hex:e x with
 |none=>rfl
 | some r =>
  cases r with
  |tup l=>rfl
  | v cc =>
   cases cc with
   |agg l=>rfl
   | one h =>
    have:=a06 (o:=o) (o':=o') (h:=h) (fun k hk=>ho k (ef hex bpz k hk))
    cases h with
    |p x=>cases x<;>rfl
    |ref id n=>rfl
    |ptr id off=>dsimp only;rw[this]
    |eptr id n i j=>dsimp only;rw[this]
    |win id n i m=>rfl
    |clo g k caps=>rfl
    |row id i k=>rfl
    |rptr id i k r j=>dsimp only;rw[this]
    |pin id n ad cap=>rfl
variable {t:TypeId}
def alr(ho:∀k∈cw e [x],o' k=o k):n7 E o' e t x=n7 E o e t x:=by
 unfold n7
 cases E t with
 |none=>rfl
 | some i =>
  dsimp only
  cases hex:e x with
  |none=>rfl
  | some r =>
   cases r with
   |tup l=>rfl
   | v cc =>
    cases cc with
    |agg l=>rfl
    | one h =>
     dsimp only;rw[a06 (o:=o) (o':=o') (h:=h) (fun k hk=>ho k (ef hex bpz k hk))]
def a84{k:Nat}(ho:∀k∈cw e [x],o' k=o k):fj E o' e t x k=fj E o e t x k:=by
 unfold fj
 cases E t with
 |none=>rfl
 | some i =>
  dsimp only;cases i.k<;>try rfl
  rename_i fs;dsimp only
  cases fs[k]? with
  |none=>rfl
  | some q =>
   obtain⟨off,ft,bl⟩:=q;dsimp only
   cases E ft with
   |none=>rfl
   | some fi =>
    dsimp only
    cases hex:e x with
    |none=>rfl
    | some r =>
     cases r with
     |tup l=>rfl
     | v cc =>
      cases cc with
      |agg l=>rfl
      | one h =>
       dsimp only;rw[a06 (o:=o) (o':=o') (h:=h) (fun k hk=>ho k (ef hex bpz k hk))]
variable {el:TypeId}{i:Operand}
def a9r{len:Nat}(ho:∀k∈cw e [x],o' k=o k):ns E o' e len el x i=ns E o e len el x i:=by
 unfold ns
 cases E el with
 |none=>rfl
 | some ei =>
  dsimp only
  cases hex:e x with
  |none=>rfl
  | some r =>
   cases r with
   |tup l=>rfl
   | v cc =>
    cases cc with
    |agg l=>rfl
    | one h =>
     dsimp only;rw[a06 (o:=o) (o':=o') (h:=h) (fun k hk=>ho k (ef hex bpz k hk))]
def a88(ho:∀k∈cw e [x],o' k=o k):fz E o' e t x i=fz E o e t x i:=by
 unfold fz
 cases E t with
 |none=>rfl
 | some ii =>
  dsimp only;cases ii.k<;>try rfl
  case array len el=>exact a9r ho
  rename_i el;dsimp only
  cases E el with
  |none=>rfl
  | some ei =>
   dsimp only
   cases hex:e x with
   |none=>rfl
   | some r =>
    cases r with
    |tup l=>rfl
    | v cc =>
     cases cc with
     |agg l=>rfl
     | one h =>
      dsimp only;have:=fun iv=>ar7 (o:=o) (o':=o') (h:=h) (n:=ei.size) (i:=iv) (fun k hk=>ho k (ef hex bpz k hk));simp only[this]
def amu {kk:KK} {m:MK} {z:Value} {cm:Bool} (ho:∀k∈h.ids,o' k=o k):abg o' kk m z cm h=abg o kk m z cm h:=by
 cases h with
 |ref id n=>simp only[abg];rw[ho id bq6]
 |p y=>cases y<;>rfl
 |_=>rfl
def adt{cm:Bool}(ho:∀k∈cw e [x],o' k=o k):k8 E o' e t x i cm=k8 E o e t x i cm:=by
 unfold k8
 cases E t with
 |none=>rfl
 | some ii =>
  dsimp only;cases ii.k<;>try rfl
  rename_i kt et;dsimp only
  cases ahb E kt et with
  |none=>rfl
  | some q =>
   obtain⟨kk,z⟩:=q;dsimp only
   cases hex:e x with
   |none=>rfl
   | some r =>
    cases r with
    |tup l=>rfl
    | v cc =>
     cases cc with
     |agg l=>rfl
     | one h =>
      dsimp only;have:=fun m=>amu (o:=o) (o':=o') (h:=h) (kk:=kk) (m:=m) (z:=z) (cm:=cm) (fun k hk=>ho k (ef hex bpz k hk));simp only[this]
def agu {op:BinOp} (ho:∀k∈h.ids,o' k=o k):a13 o' op h=a13 o op h:=by
 cases h with
 |ptr id n=>simp only[a13];rw[ho id bq6]
 | p x=>cases x with
  |raw v=>cases v<;>rfl
  |_=>rfl
 |_=>rfl
def aeq{op:BinOp}{y:Operand}(ho:∀k∈cw e [x],o' k=o k):kc E o' e op t x y=kc E o e op t x y:=by
 unfold kc;split<;>try rfl
 cases E t with
 |none=>rfl
 | some ii =>
  dsimp only;cases ii.k<;>try rfl
  dsimp only
  cases hex:e x with
  |none=>rfl
  | some r =>
   cases r with
   |tup l=>rfl
   | v cc =>
    cases cc with
    |agg l=>rfl
    |one h=>exact agu (fun k hk=>ho k (ef hex bpz k hk))
def bq1{p:Prop}(h:p:=by simp[Op.operands]):p:=h
variable {op:Op}
def awv(hx:∀x∈op.operands,e' x=e x)(ho:∀k∈cw e op.operands.toList,o' k=o k):hq E ex o' e' op=hq E ex o e op:=by
 cases op<;>try rfl
 case move x=>show Option.map _ (e' x)=Option.map _ (e x);rw[hx x bq1]
 case assign x=>show Option.map _ (e' x)=Option.map _ (e x);rw[hx x bq1]
 case pick c x y =>
  show a1c e' c x y=a1c e c x y;unfold a1c;rw[hx c bq1,hx x bq1,hx y bq1]
 case nilCheck x =>
  show qt o' e' x=qt o e x;have h1:qt o' e' x=qt o' e x:=by unfold qt;rw[hx x bq1]
  rw[h1];exact amh (by simpa [Op.operands]using ho)
 case load t x =>
  show n7 E o' e' t x=n7 E o e t x;have h1:n7 E o' e' t x=n7 E o' e t x:=by unfold n7;rw[hx x bq1]
  rw[h1];exact alr (by simpa [Op.operands]using ho)
 case fieldAddr t x k =>
  show fj E o' e' t x k=fj E o e t x k;have h1:fj E o' e' t x k=fj E o' e t x k:=by unfold fj;rw[hx x bq1]
  rw[h1];exact a84 (by simpa [Op.operands]using ho)
 case field t x k =>
  show xl E e' t x k=xl E e t x k;unfold xl;rw[hx x bq1]
 case indexAddr t x i =>
  show fz E o' e' t x i=fz E o e t x i;have h1:fz E o' e' t x i=fz E o' e t x i:=by unfold fz ns;rw[hx x bq1,hx i bq1]
  rw[h1];refine a88 fun k hk=>ho k ?_;simp only[cw,Op.operands,bmv]at hk ⊢;exact bmi _ hk
 case lookup t x i cm =>
  show k8 E o' e' t x i cm=k8 E o e t x i cm;have h1:k8 E o' e' t x i cm=k8 E o' e t x i cm:=by unfold k8;rw[hx x bq1,hx i bq1]
  rw[h1];refine adt fun k hk=>ho k ?_;simp only[cw,Op.operands,bmv]at hk ⊢;exact bmi _ hk
 case index t x i =>
  show xj E e' t x i=xj E e t x i;unfold xj;rw[hx x bq1,hx i bq1]
 case binOp op t x y ty =>
  have h1:a6z E ex e' op t x y=a6z E ex e op t x y:=by
   unfold a6z;rw[hx x bq1,hx y bq1]
  have h2:va E e' op t x y=va E e op t x y:=by
   unfold va;rw[hx x bq1]
  have h3:kc E o' e' op t x y=kc E o e op t x y:=by
   have h1:kc E o' e' op t x y=kc E o' e op t x y:=by unfold kc;rw[hx x bq1]
   rw[h1];refine aeq fun k hk=>ho k ?_;simp only[cw,Op.operands,bmv]at hk ⊢;exact bmi _ hk
  simp only[hq];rw[h1,h2,h3]
 case unOp op t x =>
  show aeu ex e' op x=aeu ex e op x;unfold aeu;rw[hx x bq1]
 case convert src dst x =>
  show a18 E ex e' src dst x=a18 E ex e src dst x;unfold a18;rw[hx x bq1]
 case extract x i =>
  show sw e' x i=sw e x i;unfold sw;rw[hx x bq1]
 case slice t x lo hi mx =>
  have e0:=hx x bq1;have e1:=mn (e:=e) (e':=e') (x:=lo) (fun y hy=>hx y (by simp[Op.operands];simp at hy;simp[hy]));have e2:=mn (e:=e) (e':=e') (x:=hi) (fun y hy=>hx y (by simp[Op.operands];simp at hy;simp[hy]));have e3:=mn (e:=e) (e':=e') (x:=mx) (fun y hy=>hx y (by simp[Op.operands];simp at hy;simp[hy]))
  have h1:lh E e' t x lo hi mx=lh E e t x lo hi mx:=by
   unfold lh;rw[e0,e1,e2,e3]
  have h2:a7s E o' e' t x lo hi mx=a7s E o e t x lo hi mx:=by
   unfold a7s;rw[e0,e1,e2,e3]
   cases E t with
   |none=>rfl
   | some ti =>
    dsimp only;cases ti.k<;>try rfl
    rename_i el;dsimp only
    cases E el with
    |none=>rfl
    | some ei =>
     dsimp only
     cases iu e lo with
     |none=>rfl
     | some l =>
      cases iu e hi with
      |none=>rfl
      | some hh =>
       cases iu e mx with
       |none=>rfl
       | some m =>
        dsimp only;exact afi (G:=id) (F:=fun o h=>ym o ei.size l hh m h) (fun h hh=>ai7 hh) (l:=(Op.slice t x lo hi mx).operands.toList) bq1 ho
  simp only[hq];rw[h1,h2]
 case makeFunc fn first caps =>
  show a0y e' fn first.toList caps.toList=a0y e fn first.toList caps.toList
  unfold a0y;rw[a8k (l:=caps.toList) (fun y hy=>hx y (by simp[Op.operands];simp at hy;exact .inr hy)),a8y (l:=caps.toList) (fun y hy=>hx y (by simp[Op.operands];simp at hy;exact .inr hy))];split
  · rfl
  · rename_i f x hf
    rw[hx x (by simp[Op.operands];left;rw[<- Array.mem_toList_iff,hf];simp)]
  rfl
 case build t parts =>
  show xp E e' t parts.toList=xp E e t parts.toList;have hf:∀places cells,go e' places cells parts.toList=go e places cells parts.toList:=fun places cells=>a0k fun x hm=>hx x (by simpa [Op.operands]using hm);unfold xp;simp only[hf]
 case call c =>
  simp only[hq]
  cases hc:c.callee with
  |value f=>rfl
  |invoke r m=>rfl
  | builtin b =>
   simp only[Op.operands,Call.operands,hc]at hx ho;have h1:∀x∈c.args.toList,e' x=e x:=fun x hm=>hx x (by simpa using hm);have h2:∀k∈cw e c.args.toList,o' k=o k:=fun k hk=>ho k (by simpa using hk);dsimp only;rw[aby h1,adp h1 h2]
variable {id:Nat}
def awa(hx:∀x∈op.operands,e' x=e x):ha E e' id op=ha E e id op:=by
 cases op<;>simp only[ha]<;>simp only[Op.operands]at hx
 case box t x=>rw[hx x bpz]
 case buildSlice t n parts =>
  have hf:∀sz cells,a6n e' sz n parts.toList cells=a6n e sz n parts.toList cells:=fun sz cells=>by
   unfold a6n;exact a0k fun x hm=>hx x (by simpa using hm)
  simp only[hf]
 case makeSlice t l c=>rw[hx l bpz,hx c bpz]
def agq{y:Operand}(ho:∀k∈cw e [x,y],o' k=o k):lc E o' e t x y=lc E o e t x y:=by
 unfold lc
 cases E t with
 |none=>rfl
 | some i =>
  cases hv:e y with
  |none=>rfl
  | some rv =>
   cases rv with
   |tup l=>rfl
   | v cv =>
    cases hex:e x with
    |none=>rfl
    | some r =>
     cases r with
     |tup l=>rfl
     | v cc =>
      cases cc with
      |agg l=>rfl
      | one h =>
       cases h with
       |p x=>cases x<;>rfl
       |ref id n=>rfl
       |ptr id off=>dsimp only;rw[ho id (ef hex bpz id (by simp[HR.ids,HC.ids,HV.ids]))]
       |eptr id n r j=>dsimp only;rw[ho id (ef hex bpz id (by simp[HR.ids,HC.ids,HV.ids]))]
       |win id n i m=>rfl
       |clo g k caps=>rfl
       |row id i k=>rfl
       |rptr id i k r j=>dsimp only;rw[ho id (ef hex bpz id (by simp[HR.ids,HC.ids,HV.ids]))]
       |pin id n ad cap=>rfl
def ajv {kk:KK} {m:MK} {y:PV} (ho:∀k∈h.ids,o' k=o k):a4z o' kk m y h=a4z o kk m y h:=by
 cases h with
 |ref id n=>simp only[a4z];rw[ho id bq6]
 |_=>rfl
def a8d{v:Operand}(ho:∀k∈cw e [x],o' k=o k):li E o' e t x i v=li E o e t x i v:=by
 unfold li
 cases E t with
 |none=>rfl
 | some ii =>
  dsimp only;cases ii.k<;>try rfl
  rename_i kt et;dsimp only
  cases E kt with
  |none=>rfl
  | some ki =>
   dsimp only
   cases hex:e x with
   |none=>rfl
   | some r =>
    cases r with
    |tup l=>rfl
    | v cc =>
     cases cc with
     |agg l=>rfl
     | one h =>
      dsimp only;have:=fun kk m y=>ajv (o:=o) (o':=o') (h:=h) (kk:=kk) (m:=m) (y:=y) (fun k hk=>ho k (ef hex bpz k hk));simp only[this]
def al3 (hx:∀x∈op.operands,e' x=e x) (ho:∀k∈cw e op.operands.toList,o' k=o k):hs E o' e' op=hs E o e op:=by
 cases op<;>try rfl
 case mapUpdate t x i v =>
  show li E o' e' t x i v=li E o e t x i v;have h1:li E o' e' t x i v=li E o' e t x i v:=by unfold li;rw[hx x bq1,hx i bq1,hx v bq1]
  rw[h1];refine a8d fun k hk=>ho k ?_;simp only[cw,Op.operands,bmv]at hk ⊢;exact bmi _ hk
 case insert t x i v =>
  show li E o' e' t x i v=li E o e t x i v;have h1:li E o' e' t x i v=li E o' e t x i v:=by unfold li;rw[hx x bq1,hx i bq1,hx v bq1]
  rw[h1];refine a8d fun k hk=>ho k ?_;simp only[cw,Op.operands,bmv]at hk ⊢;exact bmi _ hk
 case store t addr v =>
  show lc E o' e' t addr v=lc E o e t addr v;have h1:lc E o' e' t addr v=lc E o' e t addr v:=by unfold lc;rw[hx addr bq1,hx v bq1]
  rw[h1];exact agq (by simpa [Op.operands]using ho)
def a8w(ho:∀k∈h.ids,o' k=o k):xa o' id h=xa o id h:=by
 cases h with
 | p x =>
  cases x with
  | raw v =>
   cases v with
   |slice a n c=>cases n<;>rfl
   |_=>rfl
  |_=>rfl
 |ref id' n=>simp only[xa];rw[ho id' bq6]
 |_=>rfl
variable {wb:Bool}
def a0g {y:HV} (hid:o' id=o id) (ho:∀k∈y.ids,o' k=o k):re E o' id n wb el y=re E o id n wb el y:=by
 simp only[re];rw[hid,a8w ho]
def aax (ho:∀k∈h.ids,o' k=o k):a5r o' id h=a5r o id h:=by
 simp only[a5r];rw[a8w ho]
 cases h with
 |ref id' n=>simp only;rw[ho id' bq6]
 |_=>rfl
def aj8 {y:HV} (hid:o' id=o id) (ho:∀k∈y.ids,o' k=o k):yr E o' id n el y=yr E o id n el y:=by
 simp only[yr];rw[hid,aax ho]
def ari {y:HV} (hid:o' id=o id) (ho:∀k∈y.ids,o' k=o k):aaf E o' id n el y=aaf E o id n el y:=by
 simp only[aaf];rw[hid,aax ho]
def amt {i k:Nat} {y:HV} (hid:o' id=o id):a3j E o' el id n i k y=a3j E o el id n i k y:=by
 unfold a3j;rw[hid]
def aqz {z:List Value} (ho:∀k∈h.ids,o' k=o k):acy o' z n h=acy o z n h:=by
 cases h with
 |win id n i m=>simp only[acy];rw[ho id bq6]
 |_=>rfl
def amf{hy hx:HV}(h1:∀k∈hx.ids,o' k=o k)(h2:∀k∈hy.ids,o' k=o k):x5 E o' id wb el hy hx=x5 E o id wb el hy hx:=by
 cases hx with
 | win id1 n i k =>
  simp only[x5];exact amt (h1 id1 bq6)
 | pin id1 n ad cap =>
  simp only[x5];rw[a0g (o:=o) (o':=o') (h1 id1 bq6) h2]
 | ref id1 n =>
  simp only[x5];rw[a0g (o:=o) (o':=o') (h1 id1 bq6) h2,aj8 (o:=o) (o':=o') (h1 id1 bq6) h2,ari (o:=o) (o':=o') (h1 id1 bq6) h2]
 | p px =>
  cases px with
  | sl n sz cl f =>
   cases cl with
   |false=>rfl
   | true =>
    simp only[x5]
    cases E el with
    |none=>rfl
    | some ei =>
     dsimp only
     rw [a0g (o:=fun k=>if k=id then some (aa.arr false ei.size el n f)else o k) (o':=fun k=>if k=id then some (aa.arr false ei.size el n f)else o' k) bpz (fun k hk=>by
      try dsimp only
      split
      · rfl
      exact h2 k hk)]
  |_=>rfl
 |_=>rfl
def amk{x y:Option HR}(hx:∀r,x=some r->∀k∈r.ids,o' k=o k)(hy:∀r,y=some r->∀k∈r.ids,o' k=o k):
 a6p E o' id wb t x y=a6p E o id wb t x y:=by
 unfold a6p
 cases E t with
 |none=>rfl
 | some i =>
  dsimp only;cases i.k<;>try rfl
  rename_i el
  cases x with
  |none=>rfl
  | some rx =>
   cases rx with
   |tup l=>rfl
   | v cx =>
    cases cx with
    |agg l=>rfl
    | one hxv =>
     cases y with
     |none=>rfl
     | some ry =>
      cases ry with
      |tup l=>rfl
      | v cy =>
       cases cy with
       |agg l=>rfl
       |one hyv=>exact amf (hx _ rfl) (hy _ rfl)
def aua(hx:∀x∈op.operands,e' x=e x)(ho:∀k∈cw e op.operands.toList,o' k=o k):hap E o' e' id wb op=hap E o e id wb op:=by
 cases op<;>try rfl
 case call c =>
  unfold hap;dsimp only;split
  · rename_i hc
    simp only[Op.operands,Call.operands,hc]at hx ho;have h1:∀x∈c.args.toList,e' x=e x:=fun x hm=>hx x (by simpa using hm);have h2:∀k∈cw e c.args.toList,o' k=o k:=fun k hk=>ho k (by simpa using hk);generalize c.args.toList=l at h1 h2;unfold a79;split
    · rename_i x y t t' _
      split
      · rw [h1 x bpz,h1 y bpz]
        exact amk (fun r hr k hk=>h2 k (ef hr bpz k hk)) (fun r hr k hk=>h2 k (ef hr bpz k hk))
      rfl
    rfl
  · rename_i hc
    simp only[Op.operands,Call.operands,hc]at hx ho;have h1:∀x∈c.args.toList,e' x=e x:=fun x hm=>hx x (by simpa using hm);have h2:∀k∈cw e c.args.toList,o' k=o k:=fun k hk=>ho k (by simpa using hk);generalize c.args.toList=l at h1 h2;unfold y6;split
    · rename_i x t _
      rw[h1 x bpz]
      cases E t with
      |none=>rfl
      | some ti =>
       dsimp only;cases ti.k<;>try rfl
       rename_i el;dsimp only
       cases E el with
       |none=>rfl
       | some ei =>
        dsimp only
        cases ei.zero with
        |none=>rfl
        | some z =>
         dsimp only;split
         · cases hex:e x with
           |none=>rfl
           | some r =>
            cases r with
            |tup l=>rfl
            | v cc =>
             cases cc with
             |agg l=>rfl
             |one hv=>exact aqz fun k hk=>h2 k (ef hex bpz k hk)
         rfl
    rfl
  rfl
def a8o (ho:∀k∈h.ids,o' k=o k):a3i o' h=a3i o h:=by
 cases h with
 |ref id n=>simp only[a3i];rw[ho id bq6]
 |_=>rfl
end
end
end
end Go.Hx

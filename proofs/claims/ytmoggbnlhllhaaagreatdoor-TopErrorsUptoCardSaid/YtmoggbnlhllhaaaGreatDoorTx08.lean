/- A part of the proof: Hx10 Hx11. -/
import Derived.Laws.IdiomStrings
import Derived.OrdersIn
import Derived.RangeFuncCalls
import Derived.RangeFuncNested
import Derived.Test.YtmoggbnlhllhaaaGreatDoorTx07
set_option linter.all false
namespace Go.Hx
section
open Go.RowKit
def aa (P:Program) (f:FuncId) (args:List PC) (res:PR):Prop :=
 ∀ (w:World) (imm:Imm) (us:List Value),rp imm->(∀b ob,imm b=some ob->w.heap[b]? = some ob)->bw imm args us ->
  Calls P f us.toArray w fun e w'=>∃v imm',e=.returned v/\my imm' res v/\(∀b,b<w.heap.size->imm' b=imm b)/\(∀b ob,imm' b=some ob->w'.heap[b]? = some ob)/\Below w.heap.size w w'
def a2k (o:am):HV->Option (Prop×PV×Bool)
 | .p x=>some (True,x,false)
 | .ref id n =>
  match o id with
  |some (.arr _ s _ n' f)=>some (n'=n, .sl n s false f,true)
  |_=>none
 |_=>none
def vj (o:am):List HV->Option (Prop×List PV×Bool)
 | []=>some (True,[],false)
 | x::r =>
  match a2k o x,vj o r with
  |some (p,y,b),some (q,ys,b')=>some (p/\q,y::ys,b||b')
  |_,_=>none
def a62(o:am):HV->Option (Prop×PV×Bool)
 | .ptr id off =>
  match o id with
  | some (.box l) =>
   match vj o (l.drop off) with
   |some (p,ys,_)=>some (p, .vp ys.length fun j=>ys.getD j .any,true)
   |none=>none
  |_=>none
 |h=>a2k o h
def yy (o:am):HC->Option (Prop×PC×Bool)
 | .one h=>match a62 o h with|some (p,y,b)=>some (p, .one y,b)|none=>none
 | .agg l=>match vj o l with|some (p,ys,b)=>some (p, .agg ys,b)|none=>none
def iq (o:am) (e:Ev):List Operand->Option (Prop×List PC×Bool)
 | []=>some (True,[],false)
 | x::r =>
  match e x,iq o e r with
  |some (.v cc),some (q,ys,b')=>match yy o cc with|some (p,y,b)=>some (p/\q,y::ys,b||b')|none=>none
  |_,_=>none
def i7 (caps:Nat->PV):Nat->Nat->List PC
 |0,_=>[]
 |n+1,i=>.one (caps i)::i7 caps n (i+1)
def PV.flat:PV->Bool
 | .raw _=>true
 | .any=>true
 |_=>false
def afr:List PV->Bool
 | []=>true
 |x::r=>x.flat&&afr r
def PC.flat:PC->Bool
 | .one x=>x.flat
 | .agg l=>afr l
def a9n:List PC->Bool
 | []=>true
 |x::r=>x.flat&&a9n r
def PR.flat:PR->Bool
 | .v x=>x.flat
 | .tup l=>a9n l
section
variable {m m':Imm}
def aq.flat {x:PV} {u:Value} (hf:x.flat=true) (h:aq m x u):aq m' x u:=by
 cases x<;>simp[PV.flat]at hf<;>exact h
def e9.flat:∀{xs:List PV} {us:List Value},afr xs=true->e9 m xs us->e9 m' xs us
 | [],[],_,_=>trivial
 | _::_,_::_,hf,h=>by
  simp only[afr,biw]at hf;exact⟨h.1.flat hf.1,e9.flat hf.2 h.2⟩
 | [],_::_,_,h=>h.elim
 |_::_,[],_,h=>h.elim
def lg.flat {x:PC} {u:Value} (hf:x.flat=true) (h:lg m x u):lg m' x u:=by
 cases x with
 |one x=>exact aq.flat hf h
 |agg l=>obtain⟨us,e,hl⟩:=h;exact⟨us,e,hl.flat hf⟩
def bw.flat:∀{xs:List PC} {us:List Value},a9n xs=true->bw m xs us->bw m' xs us
 | [],[],_,_=>trivial
 | _::_,_::_,hf,h=>by
  simp only[a9n,biw]at hf;exact⟨h.1.flat hf.1,bw.flat hf.2 h.2⟩
 | [],_::_,_,h=>h.elim
 |_::_,[],_,h=>h.elim
def my.flat {x:PR} {u:Value} (hf:x.flat=true) (h:my m x u):my m' x u:=by
 cases x with
 |v x=>exact lg.flat hf h
 |tup l=>obtain⟨us,e,hl⟩:=h;exact⟨us,e,hl.flat hf⟩
def dm(w:World):Imm:=fun b=>w.heap[b]?
end
section
variable {P:Program}{E:Env}{w0:World}{nt:Nat}{c:Ctx}{s:S}{a:Act}{w:World}
structure xg (w0:World) (c:Ctx) (w:World) (m:Imm):Prop where
 le:Imm.le c.imm m
 new:∀b,c.frm b=none->b<w.heap.size->m b=w.heap[b]?
def oq(h:ai w0 nt c s a w):Imm.le c.imm (dm w):=fun b ob hb=>h.imm b ob hb
def ax4(h:ai w0 nt c s a w):xg w0 c w (dm w):=⟨oq h,fun _ _ _=>rfl⟩
section
variable {m:Imm}
theorem a79 (hm:xg w0 c w m) {b off:Nat} {x:Value} (hb:c.frm b=none) (hc:w.cell? ⟨b,off,none⟩=some x):gq m b off=some x:=by
 have hlt:=World.block_lt_of_cell? w _ hc;unfold World.cell? at hc;unfold gq;rw[hm.new b hb hlt]
 grind
def a7a(h:ai w0 nt c s a w)(hm:xg w0 c w m){x:HV}{u:Value}(hu:b9 c s.o x u){p:Prop}{y:PV}{b:Bool}(hv:a2k s.o x=some (p,y,b))(hp:p):
 aq m y u/\(b=false->aq c.imm y u):=by
 unfold a2k at hv;split at hv
 · simp only [bij,bim]at hv
   obtain⟨_,rfl,rfl⟩:=hv;exact⟨aq.mono hm.le hu,fun _=>hu⟩
 · rename_i id n
   split at hv<;>try(cases hv;done)
   rename_i wr sz e n' f ho;simp only[bij,bim]at hv;obtain⟨rfl,rfl,rfl⟩:=hv;obtain rfl:n'=n:=hp;refine⟨?_,fun hb=>by cases hb⟩;obtain⟨_,_,h3⟩:=hu;have hown:=(h3 _ _ _ _ ho rfl).2 rfl;obtain⟨h0,h1,h5⟩:=h.objs id _ ho
   rcases h5 with⟨h6,xs,h2,h4⟩|⟨h6,h7,h8⟩
   · rcases h2.2 with⟨hv,hz⟩|⟨g,cap,cur,hv,hbase,hheap,hcap,hmax,hcs,htake⟩
     · exact⟨none,0,by rw[hown,hv,hz],by omega,by simp[maxLen],(fun hh=>by cases hh),fun hn=>by omega⟩
     refine⟨_,cap,by rw[hown,hv],hcap,hmax,(fun hh=>by cases hh),fun hn=>⟨g,0,rfl,fun i j hi hj=>?_⟩⟩;obtain⟨x,hx,hr⟩:=h4 i j hi hj;have:=h2.cells (g:=g) (by rw[hv];rfl) _ _ hx;rw[d5]at this;exact⟨x,a79 hm (h.fsep id _ g ho (by rw[h6,hv];rfl)) this,aq.mono hm.le hr⟩
   obtain⟨ad,cap,q1,q2,q3,q4,q5⟩:=aq.mono hm.le h8;rw[hown];exact⟨ad,cap,q1,q2,q3,(fun hh=>by cases hh),q5⟩
 cases hv
def zn(h:ai w0 nt c s a w)(hm:xg w0 c w m):∀{xs:List HV} {us:List Value} (_:b5 c s.o xs us) {p:Prop} {ys:List PV} {b:Bool} (_:vj s.o xs=some (p,ys,b)) (_:p),
 e9 m ys us/\(b=false->e9 c.imm ys us)
 | [],[],_,p,ys,b,hv,_=>by
  simp only[vj,bij,bim]at hv;obtain⟨_,rfl,_⟩:=hv;exact⟨trivial,fun _=>trivial⟩
 | x :: xs,u::us,hu,p,ys,b,hv,hp=>by
  simp only[vj]at hv;split at hv<;>try(cases hv;done)
  rename_i p1 y1 b1 p2 ys2 b2 h1 h2;simp only[bij,bim]at hv;obtain⟨rfl,rfl,rfl⟩:=hv;obtain⟨q1,q2⟩:=a7a h hm hu.1 h1 hp.1;obtain⟨q3,q4⟩:=zn h hm hu.2 h2 hp.2
  exact ⟨⟨q1,q3⟩,fun hb=>by
   rw[Bool.or_eq_false_iff]at hb
   exact⟨q2 hb.1,q4 hb.2⟩⟩
 | [],_::_,hu,_,_,_,_,_=>hu.elim
 |_::_,[],hu,_,_,_,_,_=>hu.elim
theorem ali (h:ai w0 nt c s a w) (hm:xg w0 c w m) {x:HV} {u:Value} (hu:b9 c s.o x u) {p:Prop} {y:PV} {b:Bool} (hv:a62 s.o x=some (p,y,b)) (hp:p):
 aq m y u/\(b=false->aq c.imm y u):=by
 unfold a62 at hv;split at hv
 · rename_i id off
   split at hv<;>try(cases hv;done)
   rename_i l hl;split at hv<;>try(cases hv;done)
   rename_i q ys bb hvl;simp only[bij,bim]at hv;obtain⟨rfl,rfl,rfl⟩:=hv;refine⟨?_,fun hb=>by cases hb⟩;obtain⟨_,_,h3⟩:=hu;obtain⟨bk,hb,rfl⟩:=h3 l hl;obtain⟨b',C,e,h1,hblk,h2,h4,h5⟩:=h.objs id _ hl;rw[hb]at h1;simp only[Value.pointer.injEq,bij,Addr.mk.injEq,and_true]at h1;subst h1;obtain⟨q1,_⟩:=zn h hm (h5.drop off) hvl hp;refine⟨bk,off,rfl,fun j hj=>?_⟩;obtain⟨v,hv,hr⟩:=q1.get j ys[j] (bik hj);refine⟨v,a79 hm (h.fsep id _ bk hl (by rw[hblk];rfl)) ?_,by simpa [List.getD,bik hj]using hr⟩;rw[cell_of_row w bk (off+j) C e (0,0) h4]
   grind
 exact a7a h hm hu hv hp
def a73(h:ai w0 nt c s a w)(hm:xg w0 c w m){x:HC}{u:Value}(hu:ej c s.o x u){p:Prop}{y:PC}{b:Bool}(hv:yy s.o x=some (p,y,b))(hp:p):
 lg m y u/\(b=false->lg c.imm y u):=by
 unfold yy at hv;split at hv
 · split at hv<;>try(cases hv;done)
   rename_i hvp;simp only[bij,bim]at hv;obtain⟨rfl,rfl,rfl⟩:=hv;exact ali h hm hu hvp hp
 split at hv<;>try(cases hv;done)
 rename_i hvl;simp only[bij,bim]at hv;obtain⟨rfl,rfl,rfl⟩:=hv;obtain⟨us,rfl,hl⟩:=hu;obtain⟨q1,q2⟩:=zn h hm hl hvl hp;exact⟨⟨us,rfl,q1⟩,fun hb=>⟨us,rfl,q2 hb⟩⟩
def a13(h:ai w0 nt c s a w)(hm:xg w0 c w m):∀{xs:List Operand} {p:Prop} {ys:List PC} {b:Bool} (_:iq s.o (ev s) xs=some (p,ys,b)) (_:p),
 bw m ys (xs.map a.eval)/\(b=false->bw c.imm ys (xs.map a.eval))
 | [],p,ys,b,hv,_=>by
  simp only[iq,bij,bim]at hv;obtain⟨_,rfl,_⟩:=hv;exact⟨trivial,fun _=>trivial⟩
 | x :: xs,p,ys,b,hv,hp=>by
  simp only[iq]at hv;split at hv<;>try(cases hv;done)
  rename_i cc q ys2 b2 hx h2;split at hv<;>try(cases hv;done)
  rename_i p1 y1 b1 h1;simp only[bij,bim]at hv;obtain⟨rfl,rfl,rfl⟩:=hv;obtain⟨q1,q2⟩:=a73 h hm (af h hx) h1 hp.1;obtain⟨q3,q4⟩:=a13 h hm h2 hp.2
  exact ⟨⟨q1,q3⟩,fun hb=>by
   rw[Bool.or_eq_false_iff]at hb
   exact⟨q2 hb.1,q4 hb.2⟩⟩
def ww {caps:Nat->PV}:∀(n i:Nat) (cs:List Value),cs.length=i+n->(∀j,j<i+n->∃x,cs[j]? = some x/\aq m (caps j) x)->bw m (i7 caps n i) (cs.drop i)
 | 0,i,cs,hl,_=>by
  rw[bmh bmq];trivial
 | n+1,i,cs,hl,h=>by
  rw[bl8 bmq];obtain⟨x,hx,hr⟩:=h i bmq;rw[bik bmq]at hx;simp only[bij]at hx;subst hx;exact⟨hr,ww n (i+1) cs bmq fun j hj=>h j bmq⟩
def bw.append:∀{xs ys:List PC} {us vs:List Value},bw m xs us->bw m ys vs->bw m (xs++ys) (us++vs)
 | [],_,[],_,_,h=>h
 |_::_,_,_::_,_,h,k=>⟨h.1,bw.append h.2 k⟩
 | [],_,_::_,_,h,_=>h.elim
 |_::_,_,[],_,h,_=>h.elim
end
end
def HC.ids:HC->List Nat
 | .one h=>h.ids
 | .agg l=>it l
def a1t:List HC->List Nat
 | []=>[]
 |x::r=>x.ids++a1t r
def HR.ids:HR->List Nat
 | .v x=>x.ids
 | .tup l=>a1t l
def ae.ids:ae->List Nat
 | .mp ..=>[]
 | .bld ..=>[]
 | .ex ..=>[]
 | .bun _=>[]
 | .opq ..=>[]
 | .box l=>it l
 | .arr ..=>[]
 | .arrh _ _ _ ms _=>ms
 | .nest _ _ _ _ _ _ (some p)=>[p.1]
 | .nest _ _ _ _ _ _ none=>[]
theorem HC.men_ids {x:HC} {k:Nat} (h:x.men k):k∈x.ids:=by
 cases x with
 |one h'=>exact HV.men_ids h
 |agg l=>exact mq h
def aev:∀{l:List HC} {k:Nat},(∃h∈l,h.men k)->k∈a1t l
 | [],_,⟨_,h,_⟩=>by cases h
 | x::r,k,⟨h,hm,hk⟩=>by
  rcases biv.1 hm with rfl|hm
  · exact bja _ (HC.men_ids hk)
  exact bjg _ (aev ⟨h,hm,hk⟩)
theorem HR.men_ids {x:HR} {k:Nat} (h:x.men k):k∈x.ids:=by
 cases x with
 |v x=>exact HC.men_ids h
 |tup l=>exact aev h
def ae.men_ids {x:ae} {k:Nat} (h:x.men k):k∈x.ids:=by
 cases x with
 |mp kk n f=>exact h.elim
 |bld fr T e l=>exact h.elim
 |ex d v b x=>exact h.elim
 |bun B=>exact h.elim
 |opq s e n R=>exact h.elim
 |box l=>exact mq h
 |arr wr s e n f=>exact h.elim
 |arrh s e n ms f=>exact h
 |nest e et es n m g pd=>cases pd with|none=>exact h.elim|some p=>exact bjb.2 h
def cn (e:Ev):List Operand->List Nat
 | []=>[]
 |x::r=>(match e x with|some v=>v.ids|none=>[])++cn e r
structure Ann where
 id:Nat
 wb:Bool
 ex:Bool
 res:PR
 W:List Nat
 N:List Nat
 M:List Nat
def ax (ops:Array Oper) (s:S) (o:Oper):Option Bool :=
 match o.guard with
 |none=>some true
 | some (j,want) =>
  match (ops[j]?).bind (·.dst) with
  |some d=>match s.t d with|some (.v (.one (.p (.raw (.bool b)))))=>some (b==want)|some (.tup [])=>some false|_=>none
  |none=>none
def c7 (nt:Nat):Option Tmp->Bool
 |none=>true
 |some d=>decide (d<nt)
def pvN (f:Nat->PV):Nat->Nat->List PV
 |0,_=>[]
 |n+1,i=>f i::pvN f n (i+1)
def aet {m:Imm} {f:Nat->PV}:∀(n i:Nat) (cs:List Value),cs.length=i+n->(∀j,j<i+n->∃x,cs[j]? = some x/\aq m (f j) x)->e9 m (pvN f n i) (cs.drop i)
 | 0,i,cs,hl,_=>by
  rw[bmh bmq];trivial
 | n+1,i,cs,hl,h=>by
  obtain⟨x,hx,hr⟩:=h i bmq;have hlt:i<cs.length:=by omega
  rw[bl8 hlt];rw[bik hlt]at hx;simp only[bij]at hx;rw[hx];exact⟨hr,aet n (i+1) cs bmq fun j hj=>h j bmq⟩
def callee (e:Ev) (cl:Call):Option (FuncId×List PC×List PC) :=
 match cl.callee with
 | .value f =>
  match e f with
  |some (.v (.one (.p (.fn g k caps))))=>some (g,[],i7 caps k 0)
  |some (.v (.one (.p (.bnd g m fr))))=>some (g,[.agg (pvN fr m 0)],[])
  |_=>none
 |_=>none
def adh (caps:Nat->HV):Nat->Nat->List HC
 |0,_=>[]
 |n+1,i=>.one (caps i)::adh caps n (i+1)
def so (e:Ev) (cl:Call):Option (FuncId×List HC) :=
 match cl.callee with
 | .value f =>
  match e f with
  |some (.v (.one (.p (.fn g k caps))))=>some (g,(i7 caps k 0).map PC.toH)
  |some (.v (.one (.clo g k caps)))=>some (g,adh caps k 0)
  |_=>none
 |_=>none
def ak7(P:Program)(f:FuncId)(args:List PC)(res:PR):Prop:=∀(m:Imm) (us:List Value) (w:World),bw m args us->∃v,(callFunc f us.toArray).run P w=.ok (.value v) w/\my m res v
def a6 (P : Program) (f : FuncId) : Prop := ∃ fn, P.funcs[f]? = some fn /\ (fn.name == "runtime.NumGoroutine") = false /\ fn.body.isNone = false
theorem S.setW_one (s:S) (id:Nat) (ob:ae):s.setW [(id,some ob)]=s.setO id (some ob):=by
 unfold S.setW S.setO;simp only[S.mk.injEq,true_and];funext k;by_cases hk:k=id
 · subst hk;simp[gn]
 have:Nat.beq id k=false:=by
  rw[bj5];exact fun hb=>hk (bjh hb).symm
 simp[gn,this,hk]
theorem S.setW_none (s:S) (id:Nat):s.setW [(id,none)]=s.setO id none:=by
 unfold S.setW S.setO;simp only[S.mk.injEq,true_and];funext k;by_cases hk:k=id
 · subst hk;simp[gn]
 have:Nat.beq id k=false:=by
  rw[bj5];exact fun hb=>hk (bjh hb).symm
 simp[gn,this,hk]
def po (e:Ev):List Operand->Option (List HC)
 | []=>some []
 | x::r =>
  match e x,po e r with
  |some (.v cc),some l=>some (cc::l)
  |_,_=>none
def a8l:List (Nat×ae)->List Nat
 | []=>[]
 |(_,x)::r=>x.ids++a8l r
theorem agc (w:World) (o:Obj) {k:Nat} (h:k<w.heap.size):(w.drew.alloc o).heap[k]? = w.heap[k]?:=by
 show(w.heap.push o)[k]? = w.heap[k]?
 grind
def aq4(b:ByteArray):Nat->Nat->PV:=fun i _=>.raw (.int .u8 (c5 b i))
def aa9(E:Env)(e:Ev)(sr ds:TypeId)(x:Operand):Option ByteArray :=
 match E sr,E ds,e x with
 | some ti,some td,some (.v (.one (.p (.raw (.string b))))) =>
  match ti.k,td.k with
  | .string, .slice el =>
   match E el with
   |some ei=>match ei.k with | .int .u8=>some b|_=>none
   |none=>none
  |_,_=>none
 |_,_,_=>none
inductive Eff (P:Program) (E:Env) (nt:Nat) (ops:Array Oper) (o:Oper) (an:Ann) (s:S):Option HR->Wr->Prop where
 |cut (out:Out) (id:Nat) (hw:ax ops s o=some true) (hd:c7 nt o.dst=true) (hq':vf E s.o (ev s) o.op=some (out,id)) (hp:out.pre) (hW:an.W=[id]):Eff P E nt ops o an s (some out.val) [(id,none)]
 |skip (hw:ax ops s o=some false) (hd:c7 nt o.dst=true):Eff P E nt ops o an s (some (.tup [])) []
 |quiet (out:Out) (hw:ax ops s o=some true) (hd:c7 nt o.dst=true) (hq':hq E an.ex s.o (ev s) o.op=some out) (hp:out.pre) (hM:out.val.ids=an.M):Eff P E nt ops o an s (some out.val) []
 | make (nw:New) (hw:ax ops s o=some true) (hd:c7 nt o.dst=true) (hq':ha E (ev s) an.id o.op=some nw) (hp:nw.pre) (hm:NM s an.id) (hn:s.o an.id=none)
  (hW:an.W=[an.id]) (hN:an.N=[an.id]) (hM:nw.val.ids++nw.ob.ids=an.M):Eff P E nt ops o an s (some nw.val) [(an.id,some nw.ob)]
 |store (u:Upd) (hw:ax ops s o=some true) (hd:c7 nt o.dst=true) (hq':hs E s.o (ev s) o.op=some u) (hp:u.pre) (hW:an.W=[u.id]) (hM:∀k∈u.ob.ids,k∈an.M):Eff P E nt ops o an s none [(u.id,some u.ob)]
 | app (u:App) (hw:ax ops s o=some true) (hd:c7 nt o.dst=true) (hq':hap E s.o (ev s) an.id an.wb o.op=some u) (hp:u.pre) (hn:u.new=true->NM s an.id/\s.o an.id=none)
  (hW:an.W=[u.id]) (hN:u.new=true->an.N=[an.id]) (hM:u.val.ids++u.ob.ids=an.M):Eff P E nt ops o an s (some u.val) [(u.id,some u.ob)]
 | call (cl:Call) (f:FuncId) (fst caps args:List PC) (p:Prop) (vs:List PC) (b:Bool) (hw:ax ops s o=some true) (hd:c7 nt o.dst=true) (ho:o.op=.call cl) (hc:callee (ev s) cl=some (f,fst,caps)) (hf:(a6 P f/\aa P f args an.res)\/ak7 P f args an.res)
  (hv:iq s.o (ev s) cl.args.toList=some (p,vs,b)) (hp:p) (hco:CoL (fst++(vs++caps)) args) (hpure:True) (hb:(!b||an.res.flat)=true) (hM:an.M=[]):Eff P E nt ops o an s (some an.res.toH) []
 | conv (sr ds:TypeId) (x:Operand) (b:ByteArray) (hw:ax ops s o=some true) (hd:c7 nt o.dst=true) (ho:o.op=.convert sr ds x) (hcv:aa9 E (ev s) sr ds x=some b) (hp:b.size<=maxLen) (hM:an.M=[]) :
  Eff P E nt ops o an s (some (.v (.one (.p (.sl b.size 1 false (aq4 b)))))) []
 | fcall (cl:Call) (f:FuncId) (caps:List HC) (args hcs:List HC) (o1 o2:List (Nat×ae)) (res:HR) (fx:List Nat) (hw:ax ops s o=some true) (hd:c7 nt o.dst=true) (ho:o.op=.call cl) (hc:so (ev s) cl=some (f,caps)) (hf:a6 P f)
  (hv:po (ev s) cl.args.toList=some hcs) (hco:s7 (hcs++caps) args) (hfun:dv P f args o1 res o2 fx) (hsub:∀id ob,lk o1 id=some ob->∃ob',s.o id=some ob'/\CoO ob' ob)
  (hnew:∀id∈keys o2,id∉keys o1->s.o id=none) (hnm:∀id∈keys o2,id∉fx\/id∉keys o1->NMx s (keys o1++keys o2) id) (hcl:∀id ob,lk o2 id=some ob->∀k,ob.men k->k∈keys o2) (hclr:∀k,res.men k->k∈keys o2)
  (hW:an.W=keys o1++keys o2) (hN:∀id∈keys o2,id∉fx\/id∉keys o1->id∈an.N) (hM:an.M=res.ids++a8l o2):Eff P E nt ops o an s (some res) (xx o1 o2)
def aik:∀(l:List PV),it (l.map .p)=[]
 | []=>rfl
 |_::r=>by simp[it,HV.ids,aik r]
def abw:∀(l:List PC),a1t (l.map PC.toH)=[]
 | []=>rfl
 | .one _::r=>by simp[a1t,HC.ids,PC.toH,HV.ids,abw r]
 | .agg l::r=>by simp[a1t,HC.ids,PC.toH,aik l,abw r]
theorem PR.ids_toH (x:PR):x.toH.ids=[]:=by
 cases x with
 |v x=>cases x<;>simp[PR.toH,HR.ids,PC.toH,HC.ids,HV.ids,aik]
 |tup l=>simp[PR.toH,HR.ids,abw]
def S.after(s:S)(d:Option Tmp)(x:Option HR)(wr:Wr):S:=(s.setW wr).putD d x
def rf(ro:Option Nat):Fence:={ fn:=fun _=>True,depth:=none,alive:=false,round:=ro }
section
variable {P:Program}{ro:Option Nat}
def apw{n:Nat}{f:FuncId}{args:Array Value}{w:World}{R:Ending->World->Prop}(h:Calls P f args w R):CallsIn (rf ro) n P f args w R:=(callsIn_wide (n:=n)).2 h
def at5 {n:Nat} {row:String} {args:Array Value} {w:World} {R:Value->World->Prop} (h:Rows P row args w R):RowsIn (rf ro) n P row args w R:=fun c cs _=>by
 obtain⟨v,w',r,s⟩:=h c cs;exact⟨v,w',r,stepsIn_wide.2 s⟩
def zp{n:Nat}{o:Oper}{a:Act}{w:World}{K:Act->World->Prop}{Q:Exit->Act->World->Prop}(hnd:∀c,o.op≠.defer c)(h:o.wp P a w K Q):o.wpIn (rf ro) n P a w K Q:=by
 refine⟨fun _ _=>trivial, ?_⟩;rw[Oper.semAt_eq _ _ _ hnd];unfold Oper.wp at h;generalize (execOp a.eval o).run P w=r at *
 cases r with
 | ok x w' =>
  cases x<;>simp only[Oper.upon,Oper.uponIn]at h ⊢ <;>
   first
    |exact h
    |exact⟨(fun hh=>absurd hh (by simp[rf])),apw h⟩
    |exact⟨(fun hh=>absurd hh (by simp[rf])),at5 h⟩
    |exact h.elim
 |halt x w'=>cases x<;>simp only[Oper.upon,Oper.uponIn]at h ⊢<;>first|exact h|exact h.elim
def apk (P:Program) (ops:Array Oper) (Q:Exit->Act->World->Prop) (i:Nat) (K:Act->World->Prop) (a:Act) (w:World):Prop :=
 match ops[i]? with
 |none=>K a w
 |some o=>if Region.wanted o (yielded ops a.tmps)then o.wp P a w K Q else K (a.put o.dst undef) w
theorem Eff.nd {E:Env} {nt:Nat} {ops:Array Oper} {o:Oper} {an:Ann} {s:S} {x:Option HR} {wr:Wr} (he:Eff P E nt ops o an s x wr):ax ops s o=some false\/∀c,o.op≠.defer c:=by
 cases he with
 |skip hw hd=>exact .inl hw
 |cut out id hw hd hq' hp hW=>exact .inr fun c hc=>by rw[hc]at hq';cases hq'
 |quiet out hw hd hq' hp hM=>exact .inr fun c hc=>by rw[hc]at hq';cases hq'
 |make nw hw hd hq' hp hm hn hW hN hM=>exact .inr fun c hc=>by rw[hc]at hq';cases hq'
 |store u hw hd hq' hp hW hM=>exact .inr fun c hc=>by rw[hc]at hq';cases hq'
 |app u hw hd hq' hp hn hW hN hM=>exact .inr fun c hc=>by rw[hc]at hq';cases hq'
 |call cl f fst caps args p vs b hw hd ho hc hf hv hp hco hpure hb hM=>exact .inr fun c hc=>by rw[hc]at ho;cases ho
 |conv sr ds x b hw hd ho hcv hp hM=>exact .inr fun c hc=>by rw[hc]at ho;cases ho
 |fcall cl f caps args hcs o1 o2 res fx hw hd ho hc hf hv hco hfun hsub hnew hnm hcl hclr hW hN hM=>exact .inr fun c hc=>by rw[hc]at ho;cases ho
end
section
variable {P:Program}{E:Env}{w0:World}{m0:Old}{nt:Nat}{s:S}{a:Act}{w:World}{ops:Array Oper}{o:Oper}{an:Ann}
def fm (h:c7 nt o.dst=true):∀k,o.dst=some k->k<nt:=by
 intro k hk;rw[hk]at h;exact of_decide_eq_true h
theorem dz {c:Ctx} (h:ai w0 nt c s a w) {b:Bool} (hw:ax ops s o=some b):Region.wanted o (yielded ops a.tmps)=b:=by
 unfold ax at hw;unfold Region.wanted;split at hw
 · grind
 rename_i j want hg;rw[hg];split at hw<;>try(cases hw;done)
 rename_i d hd;split at hw<;>try(cases hw;done)
 rotate_left
 · rename_i hb
   simp only[bij]at hw;obtain⟨us,e1,e2⟩:=h.tmps d _ hb
   have e3:us=[]:=by cases us with|nil=>rfl|cons=>exact e2.elim
   subst e3;show(yielded ops a.tmps j==some want)=b
   have hy:yielded ops a.tmps j=none:=by
    unfold yielded;rw[hd];simp only[Option.bind_some]
    rcases bmn d a.tmps.size with h'|h'
    · simp_all
    grind
   grind
 rename_i bb hb;simp only[bij]at hw;obtain⟨e1,_⟩:=h.tmps d _ hb
 have hsz:d<a.tmps.size:=by
  rcases bmn d a.tmps.size with h'|h'
  · exact h'
  have:a.tmps.getD d undef=undef:=by simp[blm h']
  rw[this]at e1;cases e1
 have:a.tmps[d]? = some (.bool bb):=by
  simp_all
 have hy:yielded ops a.tmps j=some bb:=by
  unfold yielded
  grind
 simp_all
def bu.append {c:Ctx} {o:am}:∀{xs ys:List HC} {us vs:List Value},bu c o xs us->bu c o ys vs->bu c o (xs++ys) (us++vs)
 | [],_,[],_,_,h=>h
 |_::_,_,_::_,_,h,k=>⟨h.1,bu.append h.2 k⟩
 | [],_,_::_,_,h,_=>h.elim
 |_::_,_,[],_,h,_=>h.elim
def a36 {c:Ctx} {o:am} {caps:Nat->HV}:∀(n i:Nat) (cs:List Value),cs.length=i+n->(∀j,j<i+n->∃x,cs[j]? = some x/\b9 c o (caps j) x)->bu c o (adh caps n i) (cs.drop i)
 | 0,i,cs,hl,_=>by
  rw[bmh bmq];trivial
 | n+1,i,cs,hl,h=>by
  rw[bl8 bmq];obtain⟨x,hx,hr⟩:=h i bmq;rw[bik bmq]at hx;simp only[bij]at hx;subst hx;exact⟨hr,a36 n (i+1) cs bmq fun j hj=>h j bmq⟩
def a7p {c:Ctx} (h:ai w0 nt c s a w):∀{l:List Operand} {hcs:List HC},po (ev s) l=some hcs->bu c s.o hcs (l.map a.eval)
 | [],hcs,hv=>by
  simp only[po,bij]at hv;subst hv;trivial
 | x::r,hcs,hv=>by
  simp only[po]at hv;split at hv<;>try(cases hv;done)
  rename_i cc l e1 e2;simp only[bij]at hv;subst hv;exact⟨af h e1,a7p h e2⟩
section
variable {K:Act->World->Prop}{Q:Exit->Act->World->Prop}
theorem aqb(hE:cb P E){x:Option HR}{wr:Wr}(he:Eff P E nt ops o an s x wr)(h:Rel w0 m0 nt s a w){i:Nat}(hi:ops[i]? = some o)(hK:∀a' w',Rel w0 m0 nt (s.after o.dst x wr) a' w'->K a' w'):apk P ops Q i K a w:=by
 obtain⟨c,hold,h⟩:=h;unfold apk;simp only[hi]
 cases he with
 | cut out id hw hd hq' hp hW =>
  rw[if_pos (dz h hw)];obtain⟨v,c',h1,hold',h2,h3⟩:=alg hE h hq' hp;unfold Oper.wp;rw[h1];refine hK _ _ ⟨c',hold'.trans hold, ?_⟩
  have e:s.after o.dst (some out.val) [(id,none)]=(s.setO id none).putD o.dst (some out.val):=by
   unfold S.after;rw[S.setW_none]
  rw[e]
  exact h2.putD o.dst (fm hd) (some out.val) v (fun y hy=>by
   simp only[bij]at hy;subst hy
   exact h3)
 | skip hw hd =>
  rw[if_neg (by rw[dz h hw];simp)];exact hK _ _ ⟨c,hold,h.putD o.dst (fm hd) (some (.tup [])) undef (fun y hy=>by cases hy;exact⟨[],rfl,trivial⟩)⟩
 | quiet out hw hd hq' hp hM =>
  rw[if_pos (dz h hw)];obtain⟨v,h1,h2⟩:=aus hE h hq' hp;unfold Oper.wp;rw[h1]
  exact hK _ _ ⟨c,hold,h.putD o.dst (fm hd) (some out.val) v (fun y hy=>by
   simp only[bij]at hy;subst hy
   exact h2)⟩
 | make nw hw hd hq' hp hm hn hW hN hM =>
  rw[if_pos (dz h hw)];obtain⟨v,w',c',h1,ho',h2,h3⟩:=axz hE h hq' hp hm hn;have hold':=ho'.trans hold;unfold Oper.wp;rw[h1]
  exact hK _ _ ⟨c',hold',(by unfold S.after;rw[S.setW_one];exact h2.putD o.dst (fm hd) (some nw.val) v (fun y hy=>by
   simp only[bij]at hy;subst hy
   exact h3))⟩
 | store u hw hd hq' hp hW hM =>
  rw[if_pos (dz h hw)];obtain⟨w',c',h1,ho',h2⟩:=avo hE h hq' hp;have hold':=ho'.trans hold;unfold Oper.wp;rw[h1];exact hK _ _ ⟨c',hold',(by unfold S.after;rw[S.setW_one];exact h2.putD o.dst (fm hd) none undef (fun y hy=>by cases hy))⟩
 | app u hw hd hq' hp hn hW hN hM =>
  rw[if_pos (dz h hw)];obtain⟨v,w',c',h1,⟨ho',h2⟩,h3⟩:=arj hE h hq' hp hn;have hold':=ho'.trans hold;unfold Oper.wp;rw[h1]
  exact hK _ _ ⟨c',hold',(by unfold S.after;rw[S.setW_one];exact h2.putD o.dst (fm hd) (some u.val) v (fun y hy=>by
   simp only[bij]at hy;subst hy
   exact h3))⟩
 | conv sr ds x b hw hd ho hcv hp hM =>
  rw[if_pos (dz h hw)];unfold aa9 at hcv;split at hcv<;>try(cases hcv;done)
  rename_i ti td b' e1 e2 e3;split at hcv<;>try(cases hcv;done)
  rename_i el e4 e5;split at hcv<;>try(cases hcv;done)
  rename_i ei e6;split at hcv<;>try(cases hcv;done)
  rename_i e7;simp only[bij]at hcv;subst hcv;obtain⟨_,d1,_,p1,q1,_⟩:=aw (hE sr ti e1);obtain⟨_,d2,_,p2,q2,_⟩:=aw (hE ds td e2);obtain⟨_,d3,_,p3,q3,_⟩:=aw (hE el ei e6);have r1:d1=.string:=by rw[e4]at q1;cases d1<;>simp[gc]at q1 ⊢
  have r2:d2=.slice el:=dj (q2.symm.trans e5)
  have r3:d3=.int .u8:=by
   rw[e7]at q3;cases d3<;>simp[gc]at q3 ⊢;exact q3.symm
  subst r1 r2 r3;have hev:a.eval x=.string b':=(af h e3).1;have hrun:=run_bytes_of_string (P:=P) w sr ds el b' p1 p2 p3
  have hex:(execOp a.eval o).run P w=.ok (.value (.slice (some ⟨w.heap.size,0,none⟩) b'.size (grownCap w b'.size 0 el)))
   (w.drew.alloc (.cells (bytesRow b' (grownCap w b'.size 0 el)) el ((bytesRow b' (grownCap w b'.size 0 el)).size,(bytesRow b' (grownCap w b'.size 0 el)).size+1))):=by
   unfold execOp;simp_all
  unfold Oper.wp;rw[hex];generalize hob:Obj.cells (bytesRow b' (grownCap w b'.size 0 el)) el ((bytesRow b' (grownCap w b'.size 0 el)).size,(bytesRow b' (grownCap w b'.size 0 el)).size+1)=ob
  have h':=h.later (w.drew.alloc ob) ⟨rfl,rfl,rfl,by simp,fun k hk=>agc w _ hk,bm0 _⟩ (fun k=>if k=w.heap.size then some ob else c.imm k) (fun k hk=>if_neg bmq) (fun k ob' hk=>by
   by_cases hkk:k=w.heap.size
   · rw [if_pos hkk]at hk
     rw[hkk,<- Option.some.inj hk];exact heap_alloc_new w.drew _
   rw[if_neg hkk]at hk;have hw':=h.imm k ob' hk
   exact(agc w _ (biu.1 hw').1).trans hw')
  refine hK _ _ ⟨_,by exact hold,h'.putD o.dst (fm hd) (some (.v (.one (.p (.sl b'.size 1 false (aq4 b')))))) _ (fun y hy=>?_)⟩;simp only[bij]at hy;subst hy;refine⟨some ⟨w.heap.size,0,none⟩,_,rfl,grownCap_ge w _ _ _,grownCap_le_maxLen w _ _ _ hp,(fun hf=>by cases hf),fun _=>⟨w.heap.size,0,rfl,fun i j hi hj=>?_⟩⟩;obtain rfl:j=0:=by omega
  refine⟨.int .u8 (c5 b' i), ?_,rfl,rfl⟩;unfold gq;dsimp only;rw[if_pos rfl,<- hob];dsimp only;unfold bytesRow c5;have hsz:b'.data.size=b'.size:=rfl;rw[Array.getElem?_append_left bn4]
  grind
 | call cl f fst caps args p vs b hw hd ho hc hf hv hp hco hpure hb hM =>
  rw[if_pos (dz h hw)];obtain⟨q1,q2⟩:=a13 h (ax4 h) hv hp
  obtain ⟨fo,us,cs,hcal,e1,hfst,hcapr⟩:∃(fo:Operand) (us cs:List Value),cl.callee=.value fo/\a.eval fo=.func (.func f) us.toArray cs.toArray/\(∀m:Imm,Imm.le c.imm m->bw m fst us)/\∀m:Imm,Imm.le c.imm m->bw m caps cs:=by
   unfold callee at hc;split at hc<;>try(cases hc;done)
   rename_i fo hcal;split at hc<;>try(cases hc;done)
   · rename_i g k capf hfo
     simp only[bij,bim]at hc;obtain⟨rfl,rfl,rfl⟩:=hc;obtain⟨cs,e1,hcl,hcr⟩:=af h hfo;refine⟨fo,[],cs,hcal,e1,fun _ _=>trivial,fun m hm=>?_⟩
     have:=ww (m:=m) (caps:=capf) k 0 cs bmq (fun j hj=>by
      obtain⟨x,hx,hr⟩:=hcr j bmq
      exact⟨x,hx,aq.mono hm hr⟩)
     grind
   rename_i g k fr hfo;simp only[bij,bim]at hc;obtain⟨rfl,rfl,rfl⟩:=hc;obtain⟨cs,e1,hcl,hcr⟩:=af h hfo;refine⟨fo,[.agg cs.toArray],[],hcal,e1,fun m hm=>⟨⟨cs,rfl, ?_⟩,trivial⟩,fun _ _=>trivial⟩
   have:=aet (m:=m) (f:=fr) k 0 cs bmq (fun j hj=>by
    obtain⟨x,hx,hr⟩:=hcr j bmq
    exact⟨x,hx,aq.mono hm hr⟩)
   grind
  rcases hf with⟨⟨fn,hfn,hname,hbody⟩,hpure⟩|hx
  ·
   have hrun:(execOp a.eval o).run P w=.ok (.enter f (us++((cl.args.toList.map a.eval)++cs)).toArray) w:=by
    unfold execOp;simp only[ho,resolve,hcal,bjk,e1,Deferred.ofValue,bjz,bj4,invoke,callFunc,run_program,hfn,hname,hbody];simp
   unfold Oper.wp;rw[hrun];rw[Oper.upon_enter]
   cases hbb:b with
   | false =>
    have hargs:bw c.imm args (us++(cl.args.toList.map a.eval++cs)):=CoL.sound hco (bw.append (hfst _ (Imm.le.refl _)) (bw.append (q2 hbb) (hcapr _ (Imm.le.refl _))));refine(hpure w c.imm _ c.tab h.imm hargs).mono ?_;rintro e w' ⟨v,imm',rfl,hr,h1,h2,h3⟩;have h':=h.later w' h3 imm' h1 h2
    exact hK _ _ ⟨_,by exact hold,h'.putD o.dst (fm hd) (some an.res.toH) v (fun y hy=>by
     simp only[bij]at hy;subst hy
     exact al.of_P hr)⟩
   | true =>
    have hflat:an.res.flat=true:=by rw[hbb]at hb;simpa using hb
    have hargs:bw (dm w) args (us++(cl.args.toList.map a.eval++cs)):=CoL.sound hco (bw.append (hfst _ (oq h)) (bw.append q1 (hcapr _ (oq h))));refine(hpure w (dm w) _ (c.tab.mono (oq h)) (fun _ _ hh=>hh) hargs).mono ?_;rintro e w' ⟨v,imm',rfl,hr,h1,h2,h3⟩
    have h':=h.later w' h3 (fun b=>if b<w.heap.size then c.imm b else none) (fun b hb=>by simp[hb]) (fun b ob hbo=>by
     by_cases hlt:b<w.heap.size
     · simp only [hlt,if_true]at hbo
       rw[h3.block b hlt];exact h.imm b ob hbo
     simp[hlt]at hbo)
    exact hK _ _ ⟨_,by exact hold,h'.putD o.dst (fm hd) (some an.res.toH) v (fun y hy=>by
     simp only[bij]at hy;subst hy
     exact al.of_P (my.flat hflat hr))⟩
  have hstep:∀v,(callFunc f (us++((cl.args.toList.map a.eval)++cs)).toArray).run P w=.ok (.value v) w->(execOp a.eval o).run P w=.ok (.value v) w:=fun v hv2=>by
   rw[<- hv2];unfold execOp;simp only[ho,resolve,hcal,bjk,e1,Deferred.ofValue,bjz,bj4,invoke];simp;congr 2;apply Array.ext';simp
  cases hbb:b with
  | false =>
   have hargs:bw c.imm args (us++(cl.args.toList.map a.eval++cs)):=CoL.sound hco (bw.append (hfst _ (Imm.le.refl _)) (bw.append (q2 hbb) (hcapr _ (Imm.le.refl _))));obtain⟨v,hv2,hr⟩:=hx c.imm _ w hargs;unfold Oper.wp;rw[hstep v hv2]
   exact hK _ _ ⟨_,by exact hold,h.putD o.dst (fm hd) (some an.res.toH) v (fun y hy=>by
    simp only[bij]at hy;subst hy
    exact al.of_P hr)⟩
  | true =>
   have hflat:an.res.flat=true:=by rw[hbb]at hb;simpa using hb
   have hargs:bw (dm w) args (us++(cl.args.toList.map a.eval++cs)):=CoL.sound hco (bw.append (hfst _ (oq h)) (bw.append q1 (hcapr _ (oq h))));obtain⟨v,hv2,hr⟩:=hx (dm w) _ w hargs;unfold Oper.wp;rw[hstep v hv2]
   exact hK _ _ ⟨_,by exact hold,h.putD o.dst (fm hd) (some an.res.toH) v (fun y hy=>by
    simp only[bij]at hy;subst hy
    exact al.of_P (my.flat hflat hr))⟩
 | fcall cl f caps args hcs o1 o2 res fx hw hd ho hc hf hv hco hfun hsub hnew hnm hcl hclr hW hN hM =>
  rw[if_pos (dz h hw)];unfold so at hc;split at hc<;>try(cases hc;done)
  rename_i fo hcal;obtain⟨fn,hfn,hname,hbody⟩:=hf
  obtain ⟨cs,e1,hcapr⟩:∃cs:List Value,a.eval fo=.func (.func f) #[] cs.toArray/\bu c s.o caps cs:=by
   split at hc<;>try(cases hc;done)
   · rename_i g k capf hfo
     simp only[bij,bim]at hc;obtain⟨rfl,rfl⟩:=hc;obtain⟨cs,e1,hcl',hcr⟩:=af h hfo;refine⟨cs,e1, ?_⟩
     have:=ww (m:=c.imm) (caps:=capf) k 0 cs bmq (fun j hj=>by
      obtain⟨x,hx,hr⟩:=hcr j bmq
      exact⟨x,hx,hr⟩)
     exact bu.of_P (by simpa using this)
   rename_i g k capf hfo;simp only[bij,bim]at hc;obtain⟨rfl,rfl⟩:=hc;obtain⟨cs,e1,hcl',hcr⟩:=af h hfo;refine⟨cs,e1, ?_⟩;have:=a36 (c:=c) (o:=s.o) (caps:=capf) k 0 cs bmq (fun j hj=>hcr j bmq);simp_all
  have hrun:(execOp a.eval o).run P w=.ok (.enter f ((cl.args.toList.map a.eval)++cs).toArray) w:=by
   unfold execOp;simp only[ho,resolve,hcal,bjk,e1,Deferred.ofValue,bjz,bj4,invoke,callFunc,run_program,hfn,hname,hbody];simp
  have hargs:bu c s.o args (cl.args.toList.map a.eval++cs):=bu.co hco (bu.append (a7p h hv) hcapr);obtain⟨hmem,hto⟩:=h.lend hsub;unfold Oper.wp;rw[hrun];rw[Oper.upon_enter];refine(hfun w c _ hmem (hto _ _ hargs)).mono ?_;rintro e w' ⟨v,c',rfl,hr,hm',hbel,hfr,hbk,hfx⟩;obtain⟨c'',q1,_,q2,q3⟩:=h.fcall hsub (fun id h2 h1=>hnew id h2 h1) (fun id h2 h1=>hnm id h2 h1) hcl hm' hbel hfr hbk hfx
  exact hK _ _ ⟨c'',q1.trans hold,q2.putD o.dst (fm hd) (some res) v (fun y hy=>by
   simp only[bij]at hy;subst hy
   exact q3 _ _ hr hclr)⟩
def a4o(hE:cb P E){ro:Option Nat}{n:Nat}{x:Option HR}{wr:Wr}(he:Eff P E nt ops o an s x wr)(h:Rel w0 m0 nt s a w){i:Nat}(hi:ops[i]? = some o)(hK:∀a' w',Rel w0 m0 nt (s.after o.dst x wr) a' w'->K a' w'):wpOpIn (rf ro) n P ops Q i K a w:=by
 have h1:=aqb hE he h hi (Q:=Q) hK;unfold apk at h1;unfold wpOpIn;simp only[hi]at h1 ⊢;obtain⟨c,hold,hr⟩:=h
 rcases he.nd with hn|hn
 · have hw:=dz hr hn
   rw[if_neg (by rw[hw];simp)]at h1 ⊢;exact⟨fun _ _=>trivial,h1⟩
 split
 · rename_i hw
   rw[if_pos hw]at h1;exact zp hn h1
 rename_i hw;rw[if_neg hw]at h1;exact⟨fun _ _=>trivial,h1⟩
end
end
end
section
open Go.RowKit
section
variable {E:Env}{ex:Bool}{o o':am}{e e':Ev}
section
variable {x:Operand}
def dl {r:HR} (hx:e x=some r):∀{l:List Operand},x∈l->∀k∈r.ids,k∈cn e l
 | y::l,hm,k,hk=>by
  rcases biv.1 hm with rfl|hm
  · simp only[cn,hx];exact bja _ hk
  simp only[cn];exact bjg _ (dl hx hm k hk)
def ph:∀{l:List Operand},(∀x∈l,e' x=e x)->cn e' l=cn e l
 | [],_=>rfl
 | x::l,h=>by
  simp only[cn];rw[h x bmu,ph fun y hy=>h y (by simp[hy])]
def bmz{p:Prop}(h:p:=by simp[HV.ids]):p:=h
variable {h:HV}
def y7 (ho:∀k∈h.ids,o' k=o k):tgt o' h=tgt o h:=by
 cases h with
 |p x=>cases x<;>rfl
 |ref id n=>rfl
 |ptr id off=>simp only[tgt];rw[ho id bmz]
 |eptr id n i j=>simp only[tgt];rw[ho id bmz]
 |win id n i m=>rfl
 |clo g k caps=>rfl
 |row id i k=>rfl
 |rptr id i k r j=>simp only[tgt];rw[ho id bmz]
 |pin id n ad cap=>rfl
def zg {places:List (Nat×Nat)}:∀{parts:List (Nat×Operand)} {cells:List HV},(∀x∈parts.map (·.2),e' x=e x)->fz e' places cells parts=fz e places cells parts
 | [],_,_=>rfl
 | (i,x)::r,cells,h=>by
  have hx:=h x bmu;have ih:∀cells,fz e' places cells r=fz e places cells r:=fun cells=>zg fun y hy=>h y (by simp at hy ⊢;exact .inr hy);simp only[fz,hx,ih]
def a7n:∀{l:List Operand},(∀x∈l,e' x=e x)->yo e' l=yo e l
 | [],_=>rfl
 | x::l,h=>by
  simp only[yo];rw[h x bmu,a7n fun y hy=>h y (by simp[hy])]
def a7c:∀{l:List Operand},(∀x∈l,e' x=e x)->yc e' l=yc e l
 | [],_=>rfl
 | x::l,h=>by
  simp only[yc];rw[h x bmu,a7c fun y hy=>h y (by simp[hy])]
def mh {x:Option Operand} (h:∀y∈x.toList,e' y=e y):i9 e' x=i9 e x:=by
 cases x with
 |none=>rfl
 |some y=>simp only[i9];rw[h y bmu]
def abi{b:Builtin}{args:List Operand}{tys:List TypeId}(h:∀x∈args,e' x=e x):qp E e' b args tys=qp E e b args tys:=by
 unfold qp;split
 · rename_i x t r
   rw[h x bmu]
 · rename_i x y
   rw[h x bmu,h y bmu]
 · rename_i x y
   rw[h x bmu,h y bmu]
 rfl
def aps (ho:∀k∈h.ids,o' k=o k):a3o o' h=a3o o h:=by
 cases h with
 |ref id n=>simp only[a3o];rw[ho id bmz]
 |win id n i m=>simp only[a3o];rw[ho id bmz]
 |row id i k=>simp only[a3o];rw[ho id bmz]
 |_=>rfl
variable {n:Nat}
def ao3 {i:Int} (ho:∀k∈h.ids,o' k=o k):a8w o' n i h=a8w o n i h:=by
 cases h with
 |ref id n=>simp only[a8w];rw[ho id bmz]
 |win id n i m=>simp only[a8w];rw[ho id bmz]
 |row id i k=>simp only[a8w];rw[ho id bmz]
 |p x=>cases x<;>rfl
 |_=>rfl
def aht {x y z:Option Int} (ho:∀k∈h.ids,o' k=o k):xu o' n x y z h=xu o n x y z h:=by
 cases h with
 |ref id n=>simp only[xu];rw[ho id bmz]
 |win id n i m=>simp only[xu];rw[ho id bmz]
 |_=>rfl
def adz{l:List Operand}{F:am->HV->Option Out}{α:Type}{d:α}{G:Option Out->α}(hF:∀h:HV,(∀k∈h.ids,o' k=o k)->F o' h=F o h)(hl:x∈l)(ho:∀k∈cn e l,o' k=o k):
 (match e x with|some (.v (.one h))=>G (F o' h)|_=>d)=(match e x with|some (.v (.one h))=>G (F o h)|_=>d):=by
 cases hex:e x with
 |none=>rfl
 | some r =>
  cases r with
  |tup l=>rfl
  | v cc =>
   cases cc with
   |agg l=>rfl
   | one h =>
    dsimp only;rw[hF h fun k hk=>ho k (dl hex hl k hk)]
def adm{b:Builtin}{args:List Operand}{tys:List TypeId}(h:∀x∈args,e' x=e x)(ho:∀k∈cn e args,o' k=o k):sx E o' e' b args tys=sx E o e b args tys:=by
 unfold sx;split
 · rename_i x t r
   rw[h x bmu]
   cases E t with
   |none=>rfl
   | some ti =>
    dsimp only;cases ti.k<;>try rfl
    exact adz (G:=id) (F:=a3o) (fun h hh=>aps hh) bmu ho
 rfl
def al3(ho:∀k∈cn e [x],o' k=o k):pw o' e x=pw o e x:=by
 unfold pw
 cases hex:e x with
 |none=>rfl
 | some r =>
  cases r with
  |tup l=>rfl
  | v cc =>
   cases cc with
   |agg l=>rfl
   | one h =>
    have:=y7 (o:=o) (o':=o') (h:=h) (fun k hk=>ho k (dl hex bmu k hk))
    cases h with
    |p x=>cases x<;>rfl
    |ref id n=>rfl
    |ptr id off=>dsimp only;rw[this]
    |eptr id n i j=>dsimp only;rw[this]
    |win id n i m=>rfl
    |clo g k caps=>rfl
    |row id i k=>rfl
    |rptr id i k r j=>dsimp only;rw[this]
    |pin id n ad cap=>rfl
variable {t:TypeId}
def ahc(ho:∀k∈cn e [x],o' k=o k):mb E o' e t x=mb E o e t x:=by
 unfold mb
 cases E t with
 |none=>rfl
 | some i =>
  dsimp only
  cases hex:e x with
  |none=>rfl
  | some r =>
   cases r with
   |tup l=>rfl
   | v cc =>
    cases cc with
    |agg l=>rfl
    | one h =>
     dsimp only;rw[y7 (o:=o) (o':=o') (h:=h) (fun k hk=>ho k (dl hex bmu k hk))]
def a6w{k:Nat}(ho:∀k∈cn e [x],o' k=o k):ep E o' e t x k=ep E o e t x k:=by
 unfold ep
 cases E t with
 |none=>rfl
 | some i =>
  dsimp only;cases i.k<;>try rfl
  rename_i fs;dsimp only
  cases fs[k]? with
  |none=>rfl
  | some q =>
   obtain⟨off,ft,bl⟩:=q;dsimp only
   cases E ft with
   |none=>rfl
   | some fi =>
    dsimp only
    cases hex:e x with
    |none=>rfl
    | some r =>
     cases r with
     |tup l=>rfl
     | v cc =>
      cases cc with
      |agg l=>rfl
      | one h =>
       dsimp only;rw[y7 (o:=o) (o':=o') (h:=h) (fun k hk=>ho k (dl hex bmu k hk))]
variable {el:TypeId}{i:Operand}
def a89{len:Nat}(ho:∀k∈cn e [x],o' k=o k):mt E o' e len el x i=mt E o e len el x i:=by
 unfold mt
 cases E el with
 |none=>rfl
 | some ei =>
  dsimp only
  cases hex:e x with
  |none=>rfl
  | some r =>
   cases r with
   |tup l=>rfl
   | v cc =>
    cases cc with
    |agg l=>rfl
    | one h =>
     dsimp only;rw[y7 (o:=o) (o':=o') (h:=h) (fun k hk=>ho k (dl hex bmu k hk))]
def a6v(ho:∀k∈cn e [x],o' k=o k):fh E o' e t x i=fh E o e t x i:=by
 unfold fh
 cases E t with
 |none=>rfl
 | some ii =>
  dsimp only;cases ii.k<;>try rfl
  case array len el=>exact a89 ho
  rename_i el;dsimp only
  cases E el with
  |none=>rfl
  | some ei =>
   dsimp only
   cases hex:e x with
   |none=>rfl
   | some r =>
    cases r with
    |tup l=>rfl
    | v cc =>
     cases cc with
     |agg l=>rfl
     | one h =>
      dsimp only;have:=fun iv=>ao3 (o:=o) (o':=o') (h:=h) (n:=ei.size) (i:=iv) (fun k hk=>ho k (dl hex bmu k hk));simp only[this]
def al4 {kk:KK} {m:MK} {z:Value} {cm:Bool} (ho:∀k∈h.ids,o' k=o k):aad o' kk m z cm h=aad o kk m z cm h:=by
 cases h with
 |ref id n=>simp only[aad];rw[ho id bmz]
 |p y=>cases y<;>rfl
 |_=>rfl
def adu{cm:Bool}(ho:∀k∈cn e [x],o' k=o k):ju E o' e t x i cm=ju E o e t x i cm:=by
 unfold ju
 cases E t with
 |none=>rfl
 | some ii =>
  dsimp only;cases ii.k<;>try rfl
  rename_i kt et;dsimp only
  cases afu E kt et with
  |none=>rfl
  | some q =>
   obtain⟨kk,z⟩:=q;dsimp only
   cases hex:e x with
   |none=>rfl
   | some r =>
    cases r with
    |tup l=>rfl
    | v cc =>
     cases cc with
     |agg l=>rfl
     | one h =>
      dsimp only;have:=fun m=>al4 (o:=o) (o':=o') (h:=h) (kk:=kk) (m:=m) (z:=z) (cm:=cm) (fun k hk=>ho k (dl hex bmu k hk));simp only[this]
def afh {op:BinOp} (ho:∀k∈h.ids,o' k=o k):a18 o' op h=a18 o op h:=by
 cases h with
 |ptr id n=>simp only[a18];rw[ho id bmz]
 | p x=>cases x with
  |raw v=>cases v<;>rfl
  |_=>rfl
 |_=>rfl
def ad8{op:BinOp}{y:Operand}(ho:∀k∈cn e [x],o' k=o k):jo E o' e op t x y=jo E o e op t x y:=by
 unfold jo;split<;>try rfl
 cases E t with
 |none=>rfl
 | some ii =>
  dsimp only;cases ii.k<;>try rfl
  dsimp only
  cases hex:e x with
  |none=>rfl
  | some r =>
   cases r with
   |tup l=>rfl
   | v cc =>
    cases cc with
    |agg l=>rfl
    |one h=>exact afh (fun k hk=>ho k (dl hex bmu k hk))
def bmw{p:Prop}(h:p:=by simp[Op.operands]):p:=h
variable {op:Op}
def au9(hx:∀x∈op.operands,e' x=e x)(ho:∀k∈cn e op.operands.toList,o' k=o k):hq E ex o' e' op=hq E ex o e op:=by
 cases op<;>try rfl
 case move x=>show Option.map _ (e' x)=Option.map _ (e x);rw[hx x bmw]
 case assign x=>show Option.map _ (e' x)=Option.map _ (e x);rw[hx x bmw]
 case pick c x y =>
  show a0p e' c x y=a0p e c x y;unfold a0p;rw[hx c bmw,hx x bmw,hx y bmw]
 case nilCheck x =>
  show pw o' e' x=pw o e x;have h1:pw o' e' x=pw o' e x:=by unfold pw;rw[hx x bmw]
  rw[h1];exact al3 (by simpa [Op.operands]using ho)
 case load t x =>
  show mb E o' e' t x=mb E o e t x;have h1:mb E o' e' t x=mb E o' e t x:=by unfold mb;rw[hx x bmw]
  rw[h1];exact ahc (by simpa [Op.operands]using ho)
 case fieldAddr t x k =>
  show ep E o' e' t x k=ep E o e t x k;have h1:ep E o' e' t x k=ep E o' e t x k:=by unfold ep;rw[hx x bmw]
  rw[h1];exact a6w (by simpa [Op.operands]using ho)
 case field t x k =>
  show wd E e' t x k=wd E e t x k;unfold wd;rw[hx x bmw]
 case indexAddr t x i =>
  show fh E o' e' t x i=fh E o e t x i;have h1:fh E o' e' t x i=fh E o' e t x i:=by unfold fh mt;rw[hx x bmw,hx i bmw]
  rw[h1];refine a6v fun k hk=>ho k ?_;simp only[cn,Op.operands,bjn]at hk ⊢;exact bja _ hk
 case lookup t x i cm =>
  show ju E o' e' t x i cm=ju E o e t x i cm;have h1:ju E o' e' t x i cm=ju E o' e t x i cm:=by unfold ju;rw[hx x bmw,hx i bmw]
  rw[h1];refine adu fun k hk=>ho k ?_;simp only[cn,Op.operands,bjn]at hk ⊢;exact bja _ hk
 case index t x i =>
  show wg E e' t x i=wg E e t x i;unfold wg;rw[hx x bmw,hx i bmw]
 case binOp op t x y ty =>
  have h1:a6d E ex e' op t x y=a6d E ex e op t x y:=by
   unfold a6d;rw[hx x bmw,hx y bmw]
  have h2:ta E e' op t x y=ta E e op t x y:=by
   unfold ta;rw[hx x bmw]
  have h3:jo E o' e' op t x y=jo E o e op t x y:=by
   have h1:jo E o' e' op t x y=jo E o' e op t x y:=by unfold jo;rw[hx x bmw]
   rw[h1];refine ad8 fun k hk=>ho k ?_;simp only[cn,Op.operands,bjn]at hk ⊢;exact bja _ hk
  simp only[hq];rw[h1,h2,h3]
 case unOp op t x =>
  show adw ex e' op x=adw ex e op x;unfold adw;rw[hx x bmw]
 case convert src dst x =>
  show a0q E ex e' src dst x=a0q E ex e src dst x;unfold a0q;rw[hx x bmw]
 case extract x i =>
  show qw e' x i=qw e x i;unfold qw;rw[hx x bmw]
 case slice t x lo hi mx =>
  have e0:=hx x bmw;have e1:=mh (e:=e) (e':=e') (x:=lo) (fun y hy=>hx y (by simp[Op.operands];simp at hy;simp[hy]));have e2:=mh (e:=e) (e':=e') (x:=hi) (fun y hy=>hx y (by simp[Op.operands];simp at hy;simp[hy]));have e3:=mh (e:=e) (e':=e') (x:=mx) (fun y hy=>hx y (by simp[Op.operands];simp at hy;simp[hy]))
  have h1:l3 E e' t x lo hi mx=l3 E e t x lo hi mx:=by
   unfold l3;rw[e0,e1,e2,e3]
  have h2:a6f E o' e' t x lo hi mx=a6f E o e t x lo hi mx:=by
   unfold a6f;rw[e0,e1,e2,e3]
   cases E t with
   |none=>rfl
   | some ti =>
    dsimp only;cases ti.k<;>try rfl
    rename_i el;dsimp only
    cases E el with
    |none=>rfl
    | some ei =>
     dsimp only
     cases i9 e lo with
     |none=>rfl
     | some l =>
      cases i9 e hi with
      |none=>rfl
      | some hh =>
       cases i9 e mx with
       |none=>rfl
       | some m =>
        dsimp only;exact adz (G:=id) (F:=fun o h=>xu o ei.size l hh m h) (fun h hh=>aht hh) (l:=(Op.slice t x lo hi mx).operands.toList) bmw ho
  simp only[hq];rw[h1,h2]
 case makeFunc fn first caps =>
  show a05 e' fn first.toList caps.toList=a05 e fn first.toList caps.toList
  unfold a05;rw[a7n (l:=caps.toList) (fun y hy=>hx y (by simp[Op.operands];simp at hy;exact .inr hy)),a7c (l:=caps.toList) (fun y hy=>hx y (by simp[Op.operands];simp at hy;exact .inr hy))];split
  · rfl
  · rename_i f x hf
    rw[hx x (by simp[Op.operands];left;rw[<- Array.mem_toList_iff,hf];simp)]
  rfl
 case build t parts =>
  show wl E e' t parts.toList=wl E e t parts.toList;have hf:∀places cells,fz e' places cells parts.toList=fz e places cells parts.toList:=fun places cells=>zg fun x hm=>hx x (by simpa [Op.operands]using hm);unfold wl;simp only[hf]
 case call c =>
  simp only[hq]
  cases hc:c.callee with
  |value f=>rfl
  |invoke r m=>rfl
  | builtin b =>
   simp only[Op.operands,Call.operands,hc]at hx ho;have h1:∀x∈c.args.toList,e' x=e x:=fun x hm=>hx x (by simpa using hm);have h2:∀k∈cn e c.args.toList,o' k=o k:=fun k hk=>ho k (by simpa using hk);dsimp only;rw[abi h1,adm h1 h2]
variable {id:Nat}
def au4(hx:∀x∈op.operands,e' x=e x):ha E e' id op=ha E e id op:=by
 cases op<;>simp only[ha]<;>simp only[Op.operands]at hx
 case box t x=>rw[hx x bmu]
 case buildSlice t n parts =>
  have hf:∀sz cells,a5l e' sz n parts.toList cells=a5l e sz n parts.toList cells:=fun sz cells=>by
   unfold a5l;exact zg fun x hm=>hx x (by simpa using hm)
  simp only[hf]
 case makeSlice t l c=>rw[hx l bmu,hx c bmu]
def afg{y:Operand}(ho:∀k∈cn e [x,y],o' k=o k):kz E o' e t x y=kz E o e t x y:=by
 unfold kz
 cases E t with
 |none=>rfl
 | some i =>
  cases hv:e y with
  |none=>rfl
  | some rv =>
   cases rv with
   |tup l=>rfl
   | v cv =>
    cases hex:e x with
    |none=>rfl
    | some r =>
     cases r with
     |tup l=>rfl
     | v cc =>
      cases cc with
      |agg l=>rfl
      | one h =>
       cases h with
       |p x=>cases x<;>rfl
       |ref id n=>rfl
       |ptr id off=>dsimp only;rw[ho id (dl hex bmu id (by simp[HR.ids,HC.ids,HV.ids]))]
       |eptr id n r j=>dsimp only;rw[ho id (dl hex bmu id (by simp[HR.ids,HC.ids,HV.ids]))]
       |win id n i m=>rfl
       |clo g k caps=>rfl
       |row id i k=>rfl
       |rptr id i k r j=>dsimp only;rw[ho id (dl hex bmu id (by simp[HR.ids,HC.ids,HV.ids]))]
       |pin id n ad cap=>rfl
def ake {kk:KK} {m:MK} {y:PV} (ho:∀k∈h.ids,o' k=o k):a49 o' kk m y h=a49 o kk m y h:=by
 cases h with
 |ref id n=>simp only[a49];rw[ho id bmz]
 |_=>rfl
def a7i{v:Operand}(ho:∀k∈cn e [x],o' k=o k):lc E o' e t x i v=lc E o e t x i v:=by
 unfold lc
 cases E t with
 |none=>rfl
 | some ii =>
  dsimp only;cases ii.k<;>try rfl
  rename_i kt et;dsimp only
  cases E kt with
  |none=>rfl
  | some ki =>
   dsimp only
   cases hex:e x with
   |none=>rfl
   | some r =>
    cases r with
    |tup l=>rfl
    | v cc =>
     cases cc with
     |agg l=>rfl
     | one h =>
      dsimp only;have:=fun kk m y=>ake (o:=o) (o':=o') (h:=h) (kk:=kk) (m:=m) (y:=y) (fun k hk=>ho k (dl hex bmu k hk));simp only[this]
def ai0 (hx:∀x∈op.operands,e' x=e x) (ho:∀k∈cn e op.operands.toList,o' k=o k):hs E o' e' op=hs E o e op:=by
 cases op<;>try rfl
 case mapUpdate t x i v =>
  show lc E o' e' t x i v=lc E o e t x i v;have h1:lc E o' e' t x i v=lc E o' e t x i v:=by unfold lc;rw[hx x bmw,hx i bmw,hx v bmw]
  rw[h1];refine a7i fun k hk=>ho k ?_;simp only[cn,Op.operands,bjn]at hk ⊢;exact bja _ hk
 case insert t x i v =>
  show lc E o' e' t x i v=lc E o e t x i v;have h1:lc E o' e' t x i v=lc E o' e t x i v:=by unfold lc;rw[hx x bmw,hx i bmw,hx v bmw]
  rw[h1];refine a7i fun k hk=>ho k ?_;simp only[cn,Op.operands,bjn]at hk ⊢;exact bja _ hk
 case store t addr v =>
  show kz E o' e' t addr v=kz E o e t addr v;have h1:kz E o' e' t addr v=kz E o' e t addr v:=by unfold kz;rw[hx addr bmw,hx v bmw]
  rw[h1];exact afg (by simpa [Op.operands]using ho)
def a74(ho:∀k∈h.ids,o' k=o k):vu o' id h=vu o id h:=by
 cases h with
 | p x =>
  cases x with
  | raw v =>
   cases v with
   |slice a n c=>cases n<;>rfl
   |_=>rfl
  |_=>rfl
 |ref id' n=>simp only[vu];rw[ho id' bmz]
 |_=>rfl
variable {wb:Bool}
def zo {y:HV} (hid:o' id=o id) (ho:∀k∈y.ids,o' k=o k):pl E o' id n wb el y=pl E o id n wb el y:=by
 simp only[pl];rw[hid,a74 ho]
def abh (ho:∀k∈h.ids,o' k=o k):a3r o' id h=a3r o id h:=by
 simp only[a3r];rw[a74 ho]
 cases h with
 |ref id' n=>simp only;rw[ho id' bmz]
 |_=>rfl
def ah3 {y:HV} (hid:o' id=o id) (ho:∀k∈y.ids,o' k=o k):xv E o' id n el y=xv E o id n el y:=by
 simp only[xv];rw[hid,abh ho]
def aoq {y:HV} (hid:o' id=o id) (ho:∀k∈y.ids,o' k=o k):a8d E o' id n el y=a8d E o id n el y:=by
 simp only[a8d];rw[hid,abh ho]
def ale {i k:Nat} {y:HV} (hid:o' id=o id):a23 E o' el id n i k y=a23 E o el id n i k y:=by
 unfold a23;rw[hid]
def apt {z:List Value} (ho:∀k∈h.ids,o' k=o k):ad4 o' z n h=ad4 o z n h:=by
 cases h with
 |win id n i m=>simp only[ad4];rw[ho id bmz]
 |_=>rfl
def aky{hy hx:HV}(h1:∀k∈hx.ids,o' k=o k)(h2:∀k∈hy.ids,o' k=o k):vm E o' id wb el hy hx=vm E o id wb el hy hx:=by
 cases hx with
 | win id1 n i k =>
  simp only[vm];exact ale (h1 id1 bmz)
 | pin id1 n ad cap =>
  simp only[vm];rw[zo (o:=o) (o':=o') (h1 id1 bmz) h2]
 | ref id1 n =>
  simp only[vm];rw[zo (o:=o) (o':=o') (h1 id1 bmz) h2,ah3 (o:=o) (o':=o') (h1 id1 bmz) h2,aoq (o:=o) (o':=o') (h1 id1 bmz) h2]
 | p px =>
  cases px with
  | sl n sz cl f =>
   cases cl with
   |false=>rfl
   | true =>
    simp only[vm]
    cases E el with
    |none=>rfl
    | some ei =>
     dsimp only
     rw [zo (o:=fun k=>if k=id then some (ae.arr false ei.size el n f)else o k) (o':=fun k=>if k=id then some (ae.arr false ei.size el n f)else o' k) bmu (fun k hk=>by
      try dsimp only
      split
      · rfl
      exact h2 k hk)]
  |_=>rfl
 |_=>rfl
def al6{x y:Option HR}(hx:∀r,x=some r->∀k∈r.ids,o' k=o k)(hy:∀r,y=some r->∀k∈r.ids,o' k=o k):
 a6h E o' id wb t x y=a6h E o id wb t x y:=by
 unfold a6h
 cases E t with
 |none=>rfl
 | some i =>
  dsimp only;cases i.k<;>try rfl
  rename_i el
  cases x with
  |none=>rfl
  | some rx =>
   cases rx with
   |tup l=>rfl
   | v cx =>
    cases cx with
    |agg l=>rfl
    | one hxv =>
     cases y with
     |none=>rfl
     | some ry =>
      cases ry with
      |tup l=>rfl
      | v cy =>
       cases cy with
       |agg l=>rfl
       |one hyv=>exact aky (hx _ rfl) (hy _ rfl)
def atp(hx:∀x∈op.operands,e' x=e x)(ho:∀k∈cn e op.operands.toList,o' k=o k):hap E o' e' id wb op=hap E o e id wb op:=by
 cases op<;>try rfl
 case call c =>
  unfold hap;dsimp only;split
  · rename_i hc
    simp only[Op.operands,Call.operands,hc]at hx ho;have h1:∀x∈c.args.toList,e' x=e x:=fun x hm=>hx x (by simpa using hm);have h2:∀k∈cn e c.args.toList,o' k=o k:=fun k hk=>ho k (by simpa using hk);generalize c.args.toList=l at h1 h2;unfold a5k;split
    · rename_i x y t t' _
      split
      · rw [h1 x bmu,h1 y bmu]
        exact al6 (fun r hr k hk=>h2 k (dl hr bmu k hk)) (fun r hr k hk=>h2 k (dl hr bmu k hk))
      rfl
    rfl
  · rename_i hc
    simp only[Op.operands,Call.operands,hc]at hx ho;have h1:∀x∈c.args.toList,e' x=e x:=fun x hm=>hx x (by simpa using hm);have h2:∀k∈cn e c.args.toList,o' k=o k:=fun k hk=>ho k (by simpa using hk);generalize c.args.toList=l at h1 h2;unfold x9;split
    · rename_i x t _
      rw[h1 x bmu]
      cases E t with
      |none=>rfl
      | some ti =>
       dsimp only;cases ti.k<;>try rfl
       rename_i el;dsimp only
       cases E el with
       |none=>rfl
       | some ei =>
        dsimp only
        cases ei.zero with
        |none=>rfl
        | some z =>
         dsimp only;split
         · cases hex:e x with
           |none=>rfl
           | some r =>
            cases r with
            |tup l=>rfl
            | v cc =>
             cases cc with
             |agg l=>rfl
             |one hv=>exact apt fun k hk=>h2 k (dl hex bmu k hk)
         rfl
    rfl
  rfl
def a7s (ho:∀k∈h.ids,o' k=o k):a2k o' h=a2k o h:=by
 cases h with
 |ref id n=>simp only[a2k];rw[ho id bmz]
 |_=>rfl
end
end
end
end Go.Hx

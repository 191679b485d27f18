/- A part of the proof: Hx10 Hx11. -/
import Derived.Laws.IdiomStrings
import Derived.OrdersIn
import Derived.RangeFuncCalls
import Derived.RangeFuncNested
import Derived.Test.YtnlcekpflogjkaaGreatDoorTz08
set_option linter.all false
namespace Go.Hx
section
open Go.RowKit
def a7 (P:Program) (f:FuncId) (args:List PC) (res:PR):Prop :=
 ∀ (w:World) (imm:Imm) (us:List Value),tx imm->(∀b ob,imm b=some ob->w.heap[b]? = some ob)->cu imm args us ->
  Calls P f us.toArray w fun e w'=>∃v imm',e=.returned v/\tv imm' res v/\(∀b,b<w.heap.size->imm' b=imm b)/\(∀b ob,imm' b=some ob->w'.heap[b]? = some ob)/\Below w.heap.size w w'
def a4m (o:ar):HV->Option (Prop×PV×Bool)
 | .p x=>some (True,x,false)
 | .ref id n =>
  match o id with
  |some (.arr _ s _ n' f)=>some (n'=n, .sl n s false f,true)
  |_=>none
 |_=>none
def zc (o:ar):List HV->Option (Prop×List PV×Bool)
 | []=>some (True,[],false)
 | x::r =>
  match a4m o x,zc o r with
  |some (p,y,b),some (q,ys,b')=>some (p/\q,y::ys,b||b')
  |_,_=>none
def aa4(o:ar):HV->Option (Prop×PV×Bool)
 | .ptr id off =>
  match o id with
  | some (.box l) =>
   match zc o (l.drop off) with
   |some (p,ys,_)=>some (p, .vp ys.length fun j=>ys.getD j .any,true)
   |none=>none
  |_=>none
 |h=>a4m o h
def a26 (o:ar):HC->Option (Prop×PC×Bool)
 | .one h=>match aa4 o h with|some (p,y,b)=>some (p, .one y,b)|none=>none
 | .agg l=>match zc o l with|some (p,ys,b)=>some (p, .agg ys,b)|none=>none
def mf (o:ar) (e:Ev):List Operand->Option (Prop×List PC×Bool)
 | []=>some (True,[],false)
 | x::r =>
  match e x,mf o e r with
  |some (.v cc),some (q,ys,b')=>match a26 o cc with|some (p,y,b)=>some (p/\q,y::ys,b||b')|none=>none
  |_,_=>none
def ic (caps:Nat->PV):Nat->Nat->List PC
 |0,_=>[]
 |n+1,i=>.one (caps i)::ic caps n (i+1)
def PV.flat:PV->Bool
 | .raw _=>true
 | .any=>true
 |_=>false
def al3:List PV->Bool
 | []=>true
 |x::r=>x.flat&&al3 r
def PC.flat:PC->Bool
 | .one x=>x.flat
 | .agg l=>al3 l
def afa:List PC->Bool
 | []=>true
 |x::r=>x.flat&&afa r
def PR.flat:PR->Bool
 | .v x=>x.flat
 | .tup l=>afa l
section
variable {m m':Imm}
def au.flat {x:PV} {u:Value} (hf:x.flat=true) (h:au m x u):au m' x u:=by
 cases x<;>simp[PV.flat]at hf<;>exact h
def f7.flat:∀{xs:List PV} {us:List Value},al3 xs=true->f7 m xs us->f7 m' xs us
 | [],[],_,_=>trivial
 | _::_,_::_,hf,h=>by
  simp only[al3,bt3]at hf;exact⟨h.1.flat hf.1,f7.flat hf.2 h.2⟩
 | [],_::_,_,h=>h.elim
 |_::_,[],_,h=>h.elim
def j6.flat {x:PC} {u:Value} (hf:x.flat=true) (h:j6 m x u):j6 m' x u:=by
 cases x with
 |one x=>exact au.flat hf h
 |agg l=>obtain⟨us,e,hl⟩:=h;exact⟨us,e,hl.flat hf⟩
def cu.flat:∀{xs:List PC} {us:List Value},afa xs=true->cu m xs us->cu m' xs us
 | [],[],_,_=>trivial
 | _::_,_::_,hf,h=>by
  simp only[afa,bt3]at hf;exact⟨h.1.flat hf.1,cu.flat hf.2 h.2⟩
 | [],_::_,_,h=>h.elim
 |_::_,[],_,h=>h.elim
def tv.flat {x:PR} {u:Value} (hf:x.flat=true) (h:tv m x u):tv m' x u:=by
 cases x with
 |v x=>exact j6.flat hf h
 |tup l=>obtain⟨us,e,hl⟩:=h;exact⟨us,e,hl.flat hf⟩
def i9(w:World):Imm:=fun b=>w.heap[b]?
end
section
variable {P:Program}{E:Env}{w0:World}{nt:Nat}{c:Ctx}{s:S}{a:Act}{w:World}
structure a0g (w0:World) (c:Ctx) (w:World) (m:Imm):Prop where
 le:Imm.le c.imm m
 new:∀b,c.frm b=none->b<w.heap.size->m b=w.heap[b]?
def zp(h:ah w0 nt c s a w):Imm.le c.imm (i9 w):=fun b ob hb=>h.imm b ob hb
def b2c(h:ah w0 nt c s a w):a0g w0 c w (i9 w):=⟨zp h,fun _ _ _=>rfl⟩
section
variable {m:Imm}
theorem aap (hm:a0g w0 c w m) {b off:Nat} {x:Value} (hb:c.frm b=none) (hc:w.cell? ⟨b,off,none⟩=some x):ju m b off=some x:=by
 have hlt:=World.block_lt_of_cell? w _ hc;unfold World.cell? at hc;unfold ju;rw[hm.new b hb hlt]
 grind
def aaq(h:ah w0 nt c s a w)(hm:a0g w0 c w m){x:HV}{u:Value}(hu:bh c s.o x u){p:Prop}{y:PV}{b:Bool}(hv:a4m s.o x=some (p,y,b))(hp:p):
 au m y u/\(b=false->au c.imm y u):=by
 unfold a4m at hv;split at hv
 · simp only [bsy,bt7]at hv
   obtain⟨_,rfl,rfl⟩:=hv;exact⟨au.mono hm.le hu,fun _=>hu⟩
 · rename_i id n
   split at hv<;>try(cases hv;done)
   rename_i wr sz e n' f ho;simp only[bsy,bt7]at hv;obtain⟨rfl,rfl,rfl⟩:=hv;obtain rfl:n'=n:=hp;refine⟨?_,fun hb=>by cases hb⟩;obtain⟨_,_,h3⟩:=hu;have hown:=(h3 _ _ _ _ ho rfl).2 rfl;obtain⟨h0,h1,h5⟩:=h.objs id _ ho
   rcases h5 with⟨h6,xs,h2,h4⟩|⟨h6,h7,h8⟩
   · rcases h2.2 with⟨hv,hz⟩|⟨g,cap,cur,hv,hbase,hheap,hcap,hmax,hcs,htake⟩
     · exact⟨none,0,by rw[hown,hv,hz],by omega,by simp[maxLen],(fun hh=>by cases hh),fun hn=>by omega⟩
     refine⟨_,cap,by rw[hown,hv],hcap,hmax,(fun hh=>by cases hh),fun hn=>⟨g,0,rfl,fun i j hi hj=>?_⟩⟩;obtain⟨x,hx,hr⟩:=h4 i j hi hj;have:=h2.cells (g:=g) (by rw[hv];rfl) _ _ hx;rw[dm]at this;exact⟨x,aap hm (h.fsep id _ g ho (by rw[h6,hv];rfl)) this,au.mono hm.le hr⟩
   obtain⟨ad,cap,q1,q2,q3,q4,q5⟩:=au.mono hm.le h8;rw[hown];exact⟨ad,cap,q1,q2,q3,(fun hh=>by cases hh),q5⟩
 cases hv
def a2n(h:ah w0 nt c s a w)(hm:a0g w0 c w m):∀{xs:List HV} {us:List Value} (_:bf c s.o xs us) {p:Prop} {ys:List PV} {b:Bool} (_:zc s.o xs=some (p,ys,b)) (_:p),
 f7 m ys us/\(b=false->f7 c.imm ys us)
 | [],[],_,p,ys,b,hv,_=>by
  simp only[zc,bsy,bt7]at hv;obtain⟨_,rfl,_⟩:=hv;exact⟨trivial,fun _=>trivial⟩
 | x :: xs,u::us,hu,p,ys,b,hv,hp=>by
  simp only[zc]at hv;split at hv<;>try(cases hv;done)
  rename_i p1 y1 b1 p2 ys2 b2 h1 h2;simp only[bsy,bt7]at hv;obtain⟨rfl,rfl,rfl⟩:=hv;obtain⟨q1,q2⟩:=aaq h hm hu.1 h1 hp.1;obtain⟨q3,q4⟩:=a2n h hm hu.2 h2 hp.2
  exact ⟨⟨q1,q3⟩,fun hb=>by
   rw[Bool.or_eq_false_iff]at hb
   exact⟨q2 hb.1,q4 hb.2⟩⟩
 | [],_::_,hu,_,_,_,_,_=>hu.elim
 |_::_,[],hu,_,_,_,_,_=>hu.elim
theorem arj (h:ah w0 nt c s a w) (hm:a0g w0 c w m) {x:HV} {u:Value} (hu:bh c s.o x u) {p:Prop} {y:PV} {b:Bool} (hv:aa4 s.o x=some (p,y,b)) (hp:p):
 au m y u/\(b=false->au c.imm y u):=by
 unfold aa4 at hv;split at hv
 · rename_i id off
   split at hv<;>try(cases hv;done)
   rename_i l hl;split at hv<;>try(cases hv;done)
   rename_i q ys bb hvl;simp only[bsy,bt7]at hv;obtain⟨rfl,rfl,rfl⟩:=hv;refine⟨?_,fun hb=>by cases hb⟩;obtain⟨_,_,h3⟩:=hu;obtain⟨bk,hb,rfl⟩:=h3 l hl;obtain⟨b',C,e,h1,hblk,h2,h4,h5⟩:=h.objs id _ hl;rw[hb]at h1;simp only[Value.pointer.injEq,bsy,Addr.mk.injEq,and_true]at h1;subst h1;obtain⟨q1,_⟩:=a2n h hm (h5.drop off) hvl hp;refine⟨bk,off,rfl,fun j hj=>?_⟩;obtain⟨v,hv,hr⟩:=q1.get j ys[j] (bt0 hj);refine⟨v,aap hm (h.fsep id _ bk hl (by rw[hblk];rfl)) ?_,by simpa [List.getD,bt0 hj]using hr⟩;rw[cell_of_row w bk (off+j) C e (0,0) h4]
   grind
 exact aaq h hm hu hv hp
def aaz(h:ah w0 nt c s a w)(hm:a0g w0 c w m){x:HC}{u:Value}(hu:fu c s.o x u){p:Prop}{y:PC}{b:Bool}(hv:a26 s.o x=some (p,y,b))(hp:p):
 j6 m y u/\(b=false->j6 c.imm y u):=by
 unfold a26 at hv;split at hv
 · split at hv<;>try(cases hv;done)
   rename_i hvp;simp only[bsy,bt7]at hv;obtain⟨rfl,rfl,rfl⟩:=hv;exact arj h hm hu hvp hp
 split at hv<;>try(cases hv;done)
 rename_i hvl;simp only[bsy,bt7]at hv;obtain⟨rfl,rfl,rfl⟩:=hv;obtain⟨us,rfl,hl⟩:=hu;obtain⟨q1,q2⟩:=a2n h hm hl hvl hp;exact⟨⟨us,rfl,q1⟩,fun hb=>⟨us,rfl,q2 hb⟩⟩
def a3e(h:ah w0 nt c s a w)(hm:a0g w0 c w m):∀{xs:List Operand} {p:Prop} {ys:List PC} {b:Bool} (_:mf s.o (ev s) xs=some (p,ys,b)) (_:p),
 cu m ys (xs.map a.eval)/\(b=false->cu c.imm ys (xs.map a.eval))
 | [],p,ys,b,hv,_=>by
  simp only[mf,bsy,bt7]at hv;obtain⟨_,rfl,_⟩:=hv;exact⟨trivial,fun _=>trivial⟩
 | x :: xs,p,ys,b,hv,hp=>by
  simp only[mf]at hv;split at hv<;>try(cases hv;done)
  rename_i cc q ys2 b2 hx h2;split at hv<;>try(cases hv;done)
  rename_i p1 y1 b1 h1;simp only[bsy,bt7]at hv;obtain⟨rfl,rfl,rfl⟩:=hv;obtain⟨q1,q2⟩:=aaz h hm (af h hx) h1 hp.1;obtain⟨q3,q4⟩:=a3e h hm h2 hp.2
  exact ⟨⟨q1,q3⟩,fun hb=>by
   rw[Bool.or_eq_false_iff]at hb
   exact⟨q2 hb.1,q4 hb.2⟩⟩
def vm {caps:Nat->PV}:∀(n i:Nat) (cs:List Value),cs.length=i+n->(∀j,j<i+n->∃x,cs[j]? = some x/\au m (caps j) x)->cu m (ic caps n i) (cs.drop i)
 | 0,i,cs,hl,_=>by
  rw[bwf bx5];trivial
 | n+1,i,cs,hl,h=>by
  rw[bwa bx5];obtain⟨x,hx,hr⟩:=h i bx5;rw[bt0 bx5]at hx;simp only[bsy]at hx;subst hx;exact⟨hr,vm n (i+1) cs bx5 fun j hj=>h j bx5⟩
def cu.append:∀{xs ys:List PC} {us vs:List Value},cu m xs us->cu m ys vs->cu m (xs++ys) (us++vs)
 | [],_,[],_,_,h=>h
 |_::_,_,_::_,_,h,k=>⟨h.1,cu.append h.2 k⟩
 | [],_,_::_,_,h,_=>h.elim
 |_::_,_,[],_,h,_=>h.elim
end
end
def HC.ids:HC->List Nat
 | .one h=>h.ids
 | .agg l=>jw l
def a5q:List HC->List Nat
 | []=>[]
 |x::r=>x.ids++a5q r
def HR.ids:HR->List Nat
 | .v x=>x.ids
 | .tup l=>a5q l
def aa.ids:aa->List Nat
 | .mp ..=>[]
 | .bld ..=>[]
 | .ex ..=>[]
 | .bun _=>[]
 | .opq ..=>[]
 | .box l=>jw l
 | .arr ..=>[]
 | .arrh _ _ _ ms _=>ms
 | .nest _ _ _ _ _ _ (some p)=>[p.1]
 | .nest _ _ _ _ _ _ none=>[]
theorem HC.men_ids {x:HC} {k:Nat} (h:x.men k):k∈x.ids:=by
 cases x with
 |one h'=>exact HV.men_ids h
 |agg l=>exact oo h
def aiz:∀{l:List HC} {k:Nat},(∃h∈l,h.men k)->k∈a5q l
 | [],_,⟨_,h,_⟩=>by cases h
 | x::r,k,⟨h,hm,hk⟩=>by
  rcases btd.1 hm with rfl|hm
  · exact btk _ (HC.men_ids hk)
  exact bty _ (aiz ⟨h,hm,hk⟩)
theorem HR.men_ids {x:HR} {k:Nat} (h:x.men k):k∈x.ids:=by
 cases x with
 |v x=>exact HC.men_ids h
 |tup l=>exact aiz h
def aa.men_ids {x:aa} {k:Nat} (h:x.men k):k∈x.ids:=by
 cases x with
 |mp kk n f=>exact h.elim
 |bld fr T e l=>exact h.elim
 |ex d v b x=>exact h.elim
 |bun B=>exact h.elim
 |opq s e n R=>exact h.elim
 |box l=>exact oo h
 |arr wr s e n f=>exact h.elim
 |arrh s e n ms f=>exact h
 |nest e et es n m g pd=>cases pd with|none=>exact h.elim|some p=>exact btu.2 h
def dc (e:Ev):List Operand->List Nat
 | []=>[]
 |x::r=>(match e x with|some v=>v.ids|none=>[])++dc e r
structure Ann where
 id:Nat
 wb:Bool
 ex:Bool
 res:PR
 W:List Nat
 N:List Nat
 M:List Nat
def bc (ops:Array Oper) (s:S) (o:Oper):Option Bool :=
 match o.guard with
 |none=>some true
 | some (j,want) =>
  match (ops[j]?).bind (·.dst) with
  |some d=>match s.t d with|some (.v (.one (.p (.raw (.bool b)))))=>some (b==want)|some (.tup [])=>some false|_=>none
  |none=>none
def cz (nt:Nat):Option Tmp->Bool
 |none=>true
 |some d=>decide (d<nt)
def pvN (f:Nat->PV):Nat->Nat->List PV
 |0,_=>[]
 |n+1,i=>f i::pvN f n (i+1)
def ajn {m:Imm} {f:Nat->PV}:∀(n i:Nat) (cs:List Value),cs.length=i+n->(∀j,j<i+n->∃x,cs[j]? = some x/\au m (f j) x)->f7 m (pvN f n i) (cs.drop i)
 | 0,i,cs,hl,_=>by
  rw[bwf bx5];trivial
 | n+1,i,cs,hl,h=>by
  obtain⟨x,hx,hr⟩:=h i bx5;have hlt:i<cs.length:=by omega
  rw[bwa hlt];rw[bt0 hlt]at hx;simp only[bsy]at hx;rw[hx];exact⟨hr,ajn n (i+1) cs bx5 fun j hj=>h j bx5⟩
def callee (e:Ev) (cl:Call):Option (FuncId×List PC×List PC) :=
 match cl.callee with
 | .value f =>
  match e f with
  |some (.v (.one (.p (.fn g k caps))))=>some (g,[],ic caps k 0)
  |some (.v (.one (.p (.bnd g m fr))))=>some (g,[.agg (pvN fr m 0)],[])
  |_=>none
 |_=>none
def age (caps:Nat->HV):Nat->Nat->List HC
 |0,_=>[]
 |n+1,i=>.one (caps i)::age caps n (i+1)
def x6 (e:Ev) (cl:Call):Option (FuncId×List HC) :=
 match cl.callee with
 | .value f =>
  match e f with
  |some (.v (.one (.p (.fn g k caps))))=>some (g,(ic caps k 0).map PC.toH)
  |some (.v (.one (.clo g k caps)))=>some (g,age caps k 0)
  |_=>none
 |_=>none
def goodFn (P : Program) (f : FuncId) : Prop := ∃ fn, P.funcs[f]? = some fn /\ (fn.name == "runtime.NumGoroutine") = false /\ fn.body.isNone = false
theorem S.setW_one (s:S) (id:Nat) (ob:aa):s.setW [(id,some ob)]=s.setO id (some ob):=by
 unfold S.setW S.setO;simp only[S.mk.injEq,true_and];funext k;by_cases hk:k=id
 · subst hk;simp[j5]
 have:Nat.beq id k=false:=by
  rw[btf];exact fun hb=>hk (btx hb).symm
 simp[j5,this,hk]
theorem S.setW_none (s:S) (id:Nat):s.setW [(id,none)]=s.setO id none:=by
 unfold S.setW S.setO;simp only[S.mk.injEq,true_and];funext k;by_cases hk:k=id
 · subst hk;simp[j5]
 have:Nat.beq id k=false:=by
  rw[btf];exact fun hb=>hk (btx hb).symm
 simp[j5,this,hk]
def tw (e:Ev):List Operand->Option (List HC)
 | []=>some []
 | x::r =>
  match e x,tw e r with
  |some (.v cc),some l=>some (cc::l)
  |_,_=>none
def ac0:List (Nat×aa)->List Nat
 | []=>[]
 |(_,x)::r=>x.ids++ac0 r
theorem alr (w:World) (o:Obj) {k:Nat} (h:k<w.heap.size):(w.drew.alloc o).heap[k]? = w.heap[k]?:=by
 show(w.heap.push o)[k]? = w.heap[k]?
 grind
def awo(b:ByteArray):Nat->Nat->PV:=fun i _=>.raw (.int .u8 (cw b i))
def afk(E:Env)(e:Ev)(sr ds:TypeId)(x:Operand):Option ByteArray :=
 match E sr,E ds,e x with
 | some ti,some td,some (.v (.one (.p (.raw (.string b))))) =>
  match ti.k,td.k with
  | .string, .slice el =>
   match E el with
   |some ei=>match ei.k with | .int .u8=>some b|_=>none
   |none=>none
  |_,_=>none
 |_,_,_=>none
inductive Eff (P:Program) (E:Env) (nt:Nat) (ops:Array Oper) (o:Oper) (an:Ann) (s:S):Option HR->Wr->Prop where
 |cut (out:Out) (id:Nat) (hw:bc ops s o=some true) (hd:cz nt o.dst=true) (hq':zq E s.o (ev s) o.op=some (out,id)) (hp:out.pre) (hW:an.W=[id]):Eff P E nt ops o an s (some out.val) [(id,none)]
 |skip (hw:bc ops s o=some false) (hd:cz nt o.dst=true):Eff P E nt ops o an s (some (.tup [])) []
 |quiet (out:Out) (hw:bc ops s o=some true) (hd:cz nt o.dst=true) (hq':hq E an.ex s.o (ev s) o.op=some out) (hp:out.pre) (hM:out.val.ids=an.M):Eff P E nt ops o an s (some out.val) []
 | make (nw:New) (hw:bc ops s o=some true) (hd:cz nt o.dst=true) (hq':ha E (ev s) an.id o.op=some nw) (hp:nw.pre) (hm:NM s an.id) (hn:s.o an.id=none)
  (hW:an.W=[an.id]) (hN:an.N=[an.id]) (hM:nw.val.ids++nw.ob.ids=an.M):Eff P E nt ops o an s (some nw.val) [(an.id,some nw.ob)]
 |store (u:Upd) (hw:bc ops s o=some true) (hd:cz nt o.dst=true) (hq':hs E s.o (ev s) o.op=some u) (hp:u.pre) (hW:an.W=[u.id]) (hM:∀k∈u.ob.ids,k∈an.M):Eff P E nt ops o an s none [(u.id,some u.ob)]
 | app (u:App) (hw:bc ops s o=some true) (hd:cz nt o.dst=true) (hq':hap E s.o (ev s) an.id an.wb o.op=some u) (hp:u.pre) (hn:u.new=true->NM s an.id/\s.o an.id=none)
  (hW:an.W=[u.id]) (hN:u.new=true->an.N=[an.id]) (hM:u.val.ids++u.ob.ids=an.M):Eff P E nt ops o an s (some u.val) [(u.id,some u.ob)]
 | call (cl:Call) (f:FuncId) (fst caps args:List PC) (p:Prop) (vs:List PC) (b:Bool) (hw:bc ops s o=some true) (hd:cz nt o.dst=true) (ho:o.op=.call cl) (hc:callee (ev s) cl=some (f,fst,caps)) (hf:goodFn P f)
  (hv:mf s.o (ev s) cl.args.toList=some (p,vs,b)) (hp:p) (hco:CoL (fst++(vs++caps)) args) (hpure:a7 P f args an.res) (hb:(!b||an.res.flat)=true) (hM:an.M=[]):Eff P E nt ops o an s (some an.res.toH) []
 | conv (sr ds:TypeId) (x:Operand) (b:ByteArray) (hw:bc ops s o=some true) (hd:cz nt o.dst=true) (ho:o.op=.convert sr ds x) (hcv:afk E (ev s) sr ds x=some b) (hp:b.size<=maxLen) (hM:an.M=[]) :
  Eff P E nt ops o an s (some (.v (.one (.p (.sl b.size 1 false (awo b)))))) []
 | fcall (cl:Call) (f:FuncId) (caps:List HC) (args hcs:List HC) (o1 o2:List (Nat×aa)) (res:HR) (fx:List Nat) (hw:bc ops s o=some true) (hd:cz nt o.dst=true) (ho:o.op=.call cl) (hc:x6 (ev s) cl=some (f,caps)) (hf:goodFn P f)
  (hv:tw (ev s) cl.args.toList=some hcs) (hco:vw (hcs++caps) args) (hfun:dv P f args o1 res o2 fx) (hsub:∀id ob,lk o1 id=some ob->∃ob',s.o id=some ob'/\CoO ob' ob)
  (hnew:∀id∈keys o2,id∉keys o1->s.o id=none) (hnm:∀id∈keys o2,id∉fx\/id∉keys o1->NMx s (keys o1++keys o2) id) (hcl:∀id ob,lk o2 id=some ob->∀k,ob.men k->k∈keys o2) (hclr:∀k,res.men k->k∈keys o2)
  (hW:an.W=keys o1++keys o2) (hN:∀id∈keys o2,id∉fx\/id∉keys o1->id∈an.N) (hM:an.M=res.ids++ac0 o2):Eff P E nt ops o an s (some res) (yp o1 o2)
def aqo:∀(l:List PV),jw (l.map .p)=[]
 | []=>rfl
 |_::r=>by simp[jw,HV.ids,aqo r]
def aio:∀(l:List PC),a5q (l.map PC.toH)=[]
 | []=>rfl
 | .one _::r=>by simp[a5q,HC.ids,PC.toH,HV.ids,aio r]
 | .agg l::r=>by simp[a5q,HC.ids,PC.toH,aqo l,aio r]
theorem PR.ids_toH (x:PR):x.toH.ids=[]:=by
 cases x with
 |v x=>cases x<;>simp[PR.toH,HR.ids,PC.toH,HC.ids,HV.ids,aqo]
 |tup l=>simp[PR.toH,HR.ids,aio]
def S.after(s:S)(d:Option Tmp)(x:Option HR)(wr:Wr):S:=(s.setW wr).putD d x
def rf(ro:Option Nat):Fence:={ fn:=fun _=>True,depth:=none,alive:=false,round:=ro }
section
variable {P:Program}{ro:Option Nat}
def aw8{n:Nat}{f:FuncId}{args:Array Value}{w:World}{R:Ending->World->Prop}(h:Calls P f args w R):CallsIn (rf ro) n P f args w R:=(callsIn_wide (n:=n)).2 h
def az3 {n:Nat} {row:String} {args:Array Value} {w:World} {R:Value->World->Prop} (h:Rows P row args w R):RowsIn (rf ro) n P row args w R:=fun c cs _=>by
 obtain⟨v,w',r,s⟩:=h c cs;exact⟨v,w',r,stepsIn_wide.2 s⟩
def xr{n:Nat}{o:Oper}{a:Act}{w:World}{K:Act->World->Prop}{Q:Exit->Act->World->Prop}(hnd:∀c,o.op≠.defer c)(h:o.wp P a w K Q):o.wpIn (rf ro) n P a w K Q:=by
 refine⟨fun _ _=>trivial, ?_⟩;rw[Oper.semAt_eq _ _ _ hnd];unfold Oper.wp at h;generalize (execOp a.eval o).run P w=r at *
 cases r with
 | ok x w' =>
  cases x<;>simp only[Oper.upon,Oper.uponIn]at h ⊢ <;>
   first
    |exact h
    |exact⟨(fun hh=>absurd hh (by simp[rf])),aw8 h⟩
    |exact⟨(fun hh=>absurd hh (by simp[rf])),az3 h⟩
    |exact h.elim
 |halt x w'=>cases x<;>simp only[Oper.upon,Oper.uponIn]at h ⊢<;>first|exact h|exact h.elim
def aur (P:Program) (ops:Array Oper) (Q:Exit->Act->World->Prop) (i:Nat) (K:Act->World->Prop) (a:Act) (w:World):Prop :=
 match ops[i]? with
 |none=>K a w
 |some o=>if Region.wanted o (yielded ops a.tmps)then o.wp P a w K Q else K (a.put o.dst undef) w
theorem Eff.nd {E:Env} {nt:Nat} {ops:Array Oper} {o:Oper} {an:Ann} {s:S} {x:Option HR} {wr:Wr} (he:Eff P E nt ops o an s x wr):bc ops s o=some false\/∀c,o.op≠.defer c:=by
 cases he with
 |skip hw hd=>exact .inl hw
 |cut out id hw hd hq' hp hW=>exact .inr fun c hc=>by rw[hc]at hq';cases hq'
 |quiet out hw hd hq' hp hM=>exact .inr fun c hc=>by rw[hc]at hq';cases hq'
 |make nw hw hd hq' hp hm hn hW hN hM=>exact .inr fun c hc=>by rw[hc]at hq';cases hq'
 |store u hw hd hq' hp hW hM=>exact .inr fun c hc=>by rw[hc]at hq';cases hq'
 |app u hw hd hq' hp hn hW hN hM=>exact .inr fun c hc=>by rw[hc]at hq';cases hq'
 |call cl f fst caps args p vs b hw hd ho hc hf hv hp hco hpure hb hM=>exact .inr fun c hc=>by rw[hc]at ho;cases ho
 |conv sr ds x b hw hd ho hcv hp hM=>exact .inr fun c hc=>by rw[hc]at ho;cases ho
 |fcall cl f caps args hcs o1 o2 res fx hw hd ho hc hf hv hco hfun hsub hnew hnm hcl hclr hW hN hM=>exact .inr fun c hc=>by rw[hc]at ho;cases ho
end
section
variable {P:Program}{E:Env}{w0:World}{m0:Old}{nt:Nat}{s:S}{a:Act}{w:World}{ops:Array Oper}{o:Oper}{an:Ann}
def k7 (h:cz nt o.dst=true):∀k,o.dst=some k->k<nt:=by
 intro k hk;rw[hk]at h;exact of_decide_eq_true h
theorem f8 {c:Ctx} (h:ah w0 nt c s a w) {b:Bool} (hw:bc ops s o=some b):Region.wanted o (yielded ops a.tmps)=b:=by
 unfold bc at hw;unfold Region.wanted;split at hw
 · grind
 rename_i j want hg;rw[hg];split at hw<;>try(cases hw;done)
 rename_i d hd;split at hw<;>try(cases hw;done)
 rotate_left
 · rename_i hb
   simp only[bsy]at hw;obtain⟨us,e1,e2⟩:=h.tmps d _ hb
   have e3:us=[]:=by cases us with|nil=>rfl|cons=>exact e2.elim
   subst e3;show(yielded ops a.tmps j==some want)=b
   have hy:yielded ops a.tmps j=none:=by
    unfold yielded;rw[hd];simp only[Option.bind_some]
    rcases bwr d a.tmps.size with h'|h'
    · simp_all
    grind
   grind
 rename_i bb hb;simp only[bsy]at hw;obtain⟨e1,_⟩:=h.tmps d _ hb
 have hsz:d<a.tmps.size:=by
  rcases bwr d a.tmps.size with h'|h'
  · exact h'
  have:a.tmps.getD d undef=undef:=by simp[bvn h']
  rw[this]at e1;cases e1
 have:a.tmps[d]? = some (.bool bb):=by
  simp_all
 have hy:yielded ops a.tmps j=some bb:=by
  unfold yielded
  grind
 simp_all
def c7.append {c:Ctx} {o:ar}:∀{xs ys:List HC} {us vs:List Value},c7 c o xs us->c7 c o ys vs->c7 c o (xs++ys) (us++vs)
 | [],_,[],_,_,h=>h
 |_::_,_,_::_,_,h,k=>⟨h.1,c7.append h.2 k⟩
 | [],_,_::_,_,h,_=>h.elim
 |_::_,_,[],_,h,_=>h.elim
def a6b {c:Ctx} {o:ar} {caps:Nat->HV}:∀(n i:Nat) (cs:List Value),cs.length=i+n->(∀j,j<i+n->∃x,cs[j]? = some x/\bh c o (caps j) x)->c7 c o (age caps n i) (cs.drop i)
 | 0,i,cs,hl,_=>by
  rw[bwf bx5];trivial
 | n+1,i,cs,hl,h=>by
  rw[bwa bx5];obtain⟨x,hx,hr⟩:=h i bx5;rw[bt0 bx5]at hx;simp only[bsy]at hx;subst hx;exact⟨hr,a6b n (i+1) cs bx5 fun j hj=>h j bx5⟩
def aax {c:Ctx} (h:ah w0 nt c s a w):∀{l:List Operand} {hcs:List HC},tw (ev s) l=some hcs->c7 c s.o hcs (l.map a.eval)
 | [],hcs,hv=>by
  simp only[tw,bsy]at hv;subst hv;trivial
 | x::r,hcs,hv=>by
  simp only[tw]at hv;split at hv<;>try(cases hv;done)
  rename_i cc l e1 e2;simp only[bsy]at hv;subst hv;exact⟨af h e1,aax h e2⟩
section
variable {K:Act->World->Prop}{Q:Exit->Act->World->Prop}
theorem avo (hE:d6 P E) {x:Option HR} {wr:Wr} (he:Eff P E nt ops o an s x wr) (h:Rel w0 m0 nt s a w) {i:Nat} (hi:ops[i]? = some o) (hK:∀a' w',Rel w0 m0 nt (s.after o.dst x wr) a' w'->K a' w'):aur P ops Q i K a w:=by
 obtain⟨c,hold,h⟩:=h;unfold aur;simp only[hi]
 cases he with
 | cut out id hw hd hq' hp hW =>
  rw[if_pos (f8 h hw)];obtain⟨v,c',h1,hold',h2,h3⟩:=arc hE h hq' hp;unfold Oper.wp;rw[h1];refine hK _ _ ⟨c',hold'.trans hold, ?_⟩
  have e:s.after o.dst (some out.val) [(id,none)]=(s.setO id none).putD o.dst (some out.val):=by
   unfold S.after;rw[S.setW_none]
  rw[e]
  exact h2.putD o.dst (k7 hd) (some out.val) v (fun y hy=>by
   simp only[bsy]at hy;subst hy
   exact h3)
 | skip hw hd =>
  rw[if_neg (by rw[f8 h hw];simp)];exact hK _ _ ⟨c,hold,h.putD o.dst (k7 hd) (some (.tup [])) undef (fun y hy=>by cases hy;exact⟨[],rfl,trivial⟩)⟩
 | quiet out hw hd hq' hp hM =>
  rw[if_pos (f8 h hw)];obtain⟨v,h1,h2⟩:=an1 hE h hq' hp;unfold Oper.wp;rw[h1]
  exact hK _ _ ⟨c,hold,h.putD o.dst (k7 hd) (some out.val) v (fun y hy=>by
   simp only[bsy]at hy;subst hy
   exact h2)⟩
 | make nw hw hd hq' hp hm hn hW hN hM =>
  rw[if_pos (f8 h hw)];obtain⟨v,w',c',h1,ho',h2,h3⟩:=b2i hE h hq' hp hm hn;have hold':=ho'.trans hold;unfold Oper.wp;rw[h1]
  exact hK _ _ ⟨c',hold',(by unfold S.after;rw[S.setW_one];exact h2.putD o.dst (k7 hd) (some nw.val) v (fun y hy=>by
   simp only[bsy]at hy;subst hy
   exact h3))⟩
 | store u hw hd hq' hp hW hM =>
  rw[if_pos (f8 h hw)];obtain⟨w',c',h1,ho',h2⟩:=b6y hE h hq' hp;have hold':=ho'.trans hold;unfold Oper.wp;rw[h1];exact hK _ _ ⟨c',hold',(by unfold S.after;rw[S.setW_one];exact h2.putD o.dst (k7 hd) none undef (fun y hy=>by cases hy))⟩
 | app u hw hd hq' hp hn hW hN hM =>
  rw[if_pos (f8 h hw)];obtain⟨v,w',c',h1,⟨ho',h2⟩,h3⟩:=axh hE h hq' hp hn;have hold':=ho'.trans hold;unfold Oper.wp;rw[h1]
  exact hK _ _ ⟨c',hold',(by unfold S.after;rw[S.setW_one];exact h2.putD o.dst (k7 hd) (some u.val) v (fun y hy=>by
   simp only[bsy]at hy;subst hy
   exact h3))⟩
 | conv sr ds x b hw hd ho hcv hp hM =>
  rw[if_pos (f8 h hw)];unfold afk at hcv;split at hcv<;>try(cases hcv;done)
  rename_i ti td b' e1 e2 e3;split at hcv<;>try(cases hcv;done)
  rename_i el e4 e5;split at hcv<;>try(cases hcv;done)
  rename_i ei e6;split at hcv<;>try(cases hcv;done)
  rename_i e7;simp only[bsy]at hcv;subst hcv;obtain⟨_,d1,_,p1,q1,_⟩:=b9 (hE sr ti e1);obtain⟨_,d2,_,p2,q2,_⟩:=b9 (hE ds td e2);obtain⟨_,d3,_,p3,q3,_⟩:=b9 (hE el ei e6);have r1:d1=.string:=by rw[e4]at q1;cases d1<;>simp[j9]at q1 ⊢
  have r2:d2=.slice el:=f4 (q2.symm.trans e5)
  have r3:d3=.int .u8:=by
   rw[e7]at q3;cases d3<;>simp[j9]at q3 ⊢;exact q3.symm
  subst r1 r2 r3;have hev:a.eval x=.string b':=(af h e3).1;have hrun:=run_bytes_of_string (P:=P) w sr ds el b' p1 p2 p3
  have hex:(execOp a.eval o).run P w=.ok (.value (.slice (some ⟨w.heap.size,0,none⟩) b'.size (grownCap w b'.size 0 el)))
   (w.drew.alloc (.cells (bytesRow b' (grownCap w b'.size 0 el)) el ((bytesRow b' (grownCap w b'.size 0 el)).size,(bytesRow b' (grownCap w b'.size 0 el)).size+1))):=by
   unfold execOp;simp_all
  unfold Oper.wp;rw[hex];generalize hob:Obj.cells (bytesRow b' (grownCap w b'.size 0 el)) el ((bytesRow b' (grownCap w b'.size 0 el)).size,(bytesRow b' (grownCap w b'.size 0 el)).size+1)=ob
  have h':=h.later (w.drew.alloc ob) ⟨rfl,rfl,rfl,by simp,fun k hk=>alr w _ hk,bwo _⟩ (fun k=>if k=w.heap.size then some ob else c.imm k) (fun k hk=>if_neg bx5) (fun k ob' hk=>by
   by_cases hkk:k=w.heap.size
   · rw [if_pos hkk]at hk
     rw[hkk,<- Option.some.inj hk];exact heap_alloc_new w.drew _
   rw[if_neg hkk]at hk;have hw':=h.imm k ob' hk
   exact(alr w _ (bt5.1 hw').1).trans hw')
  refine hK _ _ ⟨_,by exact hold,h'.putD o.dst (k7 hd) (some (.v (.one (.p (.sl b'.size 1 false (awo b')))))) _ (fun y hy=>?_)⟩;simp only[bsy]at hy;subst hy;refine⟨some ⟨w.heap.size,0,none⟩,_,rfl,grownCap_ge w _ _ _,grownCap_le_maxLen w _ _ _ hp,(fun hf=>by cases hf),fun _=>⟨w.heap.size,0,rfl,fun i j hi hj=>?_⟩⟩;obtain rfl:j=0:=by omega
  refine⟨.int .u8 (cw b' i), ?_,rfl,rfl⟩;unfold ju;dsimp only;rw[if_pos rfl,<- hob];dsimp only;unfold bytesRow cw;have hsz:b'.data.size=b'.size:=rfl;rw[Array.getElem?_append_left bxi]
  grind
 | call cl f fst caps args p vs b hw hd ho hc hf hv hp hco hpure hb hM =>
  rw[if_pos (f8 h hw)];obtain⟨fn,hfn,hname,hbody⟩:=hf;obtain⟨q1,q2⟩:=a3e h (b2c h) hv hp
  obtain ⟨fo,us,cs,hcal,e1,hfst,hcapr⟩:∃(fo:Operand) (us cs:List Value),cl.callee=.value fo/\a.eval fo=.func (.func f) us.toArray cs.toArray/\(∀m:Imm,Imm.le c.imm m->cu m fst us)/\∀m:Imm,Imm.le c.imm m->cu m caps cs:=by
   unfold callee at hc;split at hc<;>try(cases hc;done)
   rename_i fo hcal;split at hc<;>try(cases hc;done)
   · rename_i g k capf hfo
     simp only[bsy,bt7]at hc;obtain⟨rfl,rfl,rfl⟩:=hc;obtain⟨cs,e1,hcl,hcr⟩:=af h hfo;refine⟨fo,[],cs,hcal,e1,fun _ _=>trivial,fun m hm=>?_⟩
     have:=vm (m:=m) (caps:=capf) k 0 cs bx5 (fun j hj=>by
      obtain⟨x,hx,hr⟩:=hcr j bx5
      exact⟨x,hx,au.mono hm hr⟩)
     grind
   rename_i g k fr hfo;simp only[bsy,bt7]at hc;obtain⟨rfl,rfl,rfl⟩:=hc;obtain⟨cs,e1,hcl,hcr⟩:=af h hfo;refine⟨fo,[.agg cs.toArray],[],hcal,e1,fun m hm=>⟨⟨cs,rfl, ?_⟩,trivial⟩,fun _ _=>trivial⟩
   have:=ajn (m:=m) (f:=fr) k 0 cs bx5 (fun j hj=>by
    obtain⟨x,hx,hr⟩:=hcr j bx5
    exact⟨x,hx,au.mono hm hr⟩)
   grind
  have hrun:(execOp a.eval o).run P w=.ok (.enter f (us++((cl.args.toList.map a.eval)++cs)).toArray) w:=by
   unfold execOp;simp only[ho,resolve,hcal,bu5,e1,Deferred.ofValue,but,btj,invoke,callFunc,run_program,hfn,hname,hbody];simp
  unfold Oper.wp;rw[hrun];rw[Oper.upon_enter]
  cases hbb:b with
  | false =>
   have hargs:cu c.imm args (us++(cl.args.toList.map a.eval++cs)):=CoL.sound hco (cu.append (hfst _ (Imm.le.refl _)) (cu.append (q2 hbb) (hcapr _ (Imm.le.refl _))));refine(hpure w c.imm _ c.tab h.imm hargs).mono ?_;rintro e w' ⟨v,imm',rfl,hr,h1,h2,h3⟩;have h':=h.later w' h3 imm' h1 h2
   exact hK _ _ ⟨_,by exact hold,h'.putD o.dst (k7 hd) (some an.res.toH) v (fun y hy=>by
    simp only[bsy]at hy;subst hy
    exact aq.of_P hr)⟩
  | true =>
   have hflat:an.res.flat=true:=by rw[hbb]at hb;simpa using hb
   have hargs:cu (i9 w) args (us++(cl.args.toList.map a.eval++cs)):=CoL.sound hco (cu.append (hfst _ (zp h)) (cu.append q1 (hcapr _ (zp h))));refine(hpure w (i9 w) _ (c.tab.mono (zp h)) (fun _ _ hh=>hh) hargs).mono ?_;rintro e w' ⟨v,imm',rfl,hr,h1,h2,h3⟩
   have h':=h.later w' h3 (fun b=>if b<w.heap.size then c.imm b else none) (fun b hb=>by simp[hb]) (fun b ob hbo=>by
    by_cases hlt:b<w.heap.size
    · simp only [hlt,if_true]at hbo
      rw[h3.block b hlt];exact h.imm b ob hbo
    simp[hlt]at hbo)
   exact hK _ _ ⟨_,by exact hold,h'.putD o.dst (k7 hd) (some an.res.toH) v (fun y hy=>by
    simp only[bsy]at hy;subst hy
    exact aq.of_P (tv.flat hflat hr))⟩
 | fcall cl f caps args hcs o1 o2 res fx hw hd ho hc hf hv hco hfun hsub hnew hnm hcl hclr hW hN hM =>
  rw[if_pos (f8 h hw)];unfold x6 at hc;split at hc<;>try(cases hc;done)
  rename_i fo hcal;obtain⟨fn,hfn,hname,hbody⟩:=hf
  obtain ⟨cs,e1,hcapr⟩:∃cs:List Value,a.eval fo=.func (.func f) #[] cs.toArray/\c7 c s.o caps cs:=by
   split at hc<;>try(cases hc;done)
   · rename_i g k capf hfo
     simp only[bsy,bt7]at hc;obtain⟨rfl,rfl⟩:=hc;obtain⟨cs,e1,hcl',hcr⟩:=af h hfo;refine⟨cs,e1, ?_⟩
     have:=vm (m:=c.imm) (caps:=capf) k 0 cs bx5 (fun j hj=>by
      obtain⟨x,hx,hr⟩:=hcr j bx5
      exact⟨x,hx,hr⟩)
     exact c7.of_P (by simpa using this)
   rename_i g k capf hfo;simp only[bsy,bt7]at hc;obtain⟨rfl,rfl⟩:=hc;obtain⟨cs,e1,hcl',hcr⟩:=af h hfo;refine⟨cs,e1, ?_⟩;have:=a6b (c:=c) (o:=s.o) (caps:=capf) k 0 cs bx5 (fun j hj=>hcr j bx5);simp_all
  have hrun:(execOp a.eval o).run P w=.ok (.enter f ((cl.args.toList.map a.eval)++cs).toArray) w:=by
   unfold execOp;simp only[ho,resolve,hcal,bu5,e1,Deferred.ofValue,but,btj,invoke,callFunc,run_program,hfn,hname,hbody];simp
  have hargs:c7 c s.o args (cl.args.toList.map a.eval++cs):=c7.co hco (c7.append (aax h hv) hcapr);obtain⟨hmem,hto⟩:=h.lend hsub;unfold Oper.wp;rw[hrun];rw[Oper.upon_enter];refine(hfun w c _ hmem (hto _ _ hargs)).mono ?_;rintro e w' ⟨v,c',rfl,hr,hm',hbel,hfr,hbk,hfx⟩;obtain⟨c'',q1,_,q2,q3⟩:=h.fcall hsub (fun id h2 h1=>hnew id h2 h1) (fun id h2 h1=>hnm id h2 h1) hcl hm' hbel hfr hbk hfx
  exact hK _ _ ⟨c'',q1.trans hold,q2.putD o.dst (k7 hd) (some res) v (fun y hy=>by
   simp only[bsy]at hy;subst hy
   exact q3 _ _ hr hclr)⟩
def a82(hE:d6 P E){ro:Option Nat}{n:Nat}{x:Option HR}{wr:Wr}(he:Eff P E nt ops o an s x wr)(h:Rel w0 m0 nt s a w){i:Nat}(hi:ops[i]? = some o)(hK:∀a' w',Rel w0 m0 nt (s.after o.dst x wr) a' w'->K a' w'):wpOpIn (rf ro) n P ops Q i K a w:=by
 have h1:=avo hE he h hi (Q:=Q) hK;unfold aur at h1;unfold wpOpIn;simp only[hi]at h1 ⊢;obtain⟨c,hold,hr⟩:=h
 rcases he.nd with hn|hn
 · have hw:=f8 hr hn
   rw[if_neg (by rw[hw];simp)]at h1 ⊢;exact⟨fun _ _=>trivial,h1⟩
 split
 · rename_i hw
   rw[if_pos hw]at h1;exact xr hn h1
 rename_i hw;rw[if_neg hw]at h1;exact⟨fun _ _=>trivial,h1⟩
end
end
end
section
open Go.RowKit
section
variable {E:Env}{ex:Bool}{o o':ar}{e e':Ev}
section
variable {x:Operand}
def fe {r:HR} (hx:e x=some r):∀{l:List Operand},x∈l->∀k∈r.ids,k∈dc e l
 | y::l,hm,k,hk=>by
  rcases btd.1 hm with rfl|hm
  · simp only[dc,hx];exact btk _ hk
  simp only[dc];exact bty _ (fe hx hm k hk)
def tk:∀{l:List Operand},(∀x∈l,e' x=e x)->dc e' l=dc e l
 | [],_=>rfl
 | x::l,h=>by
  simp only[dc];rw[h x bx8,tk fun y hy=>h y (by simp[hy])]
def bxg{p:Prop}(h:p:=by simp[HV.ids]):p:=h
variable {h:HV}
def a2a (ho:∀k∈h.ids,o' k=o k):tgt o' h=tgt o h:=by
 cases h with
 |p x=>cases x<;>rfl
 |ref id n=>rfl
 |ptr id off=>simp only[tgt];rw[ho id bxg]
 |eptr id n i j=>simp only[tgt];rw[ho id bxg]
 |win id n i m=>rfl
 |clo g k caps=>rfl
 |row id i k=>rfl
 |rptr id i k r j=>simp only[tgt];rw[ho id bxg]
 |pin id n ad cap=>rfl
def a2i {places:List (Nat×Nat)}:∀{parts:List (Nat×Operand)} {cells:List HV},(∀x∈parts.map (·.2),e' x=e x)->j4 e' places cells parts=j4 e places cells parts
 | [],_,_=>rfl
 | (i,x)::r,cells,h=>by
  have hx:=h x bx8;have ih:∀cells,j4 e' places cells r=j4 e places cells r:=fun cells=>a2i fun y hy=>h y (by simp at hy ⊢;exact .inr hy);simp only[j4,hx,ih]
def aav:∀{l:List Operand},(∀x∈l,e' x=e x)->a1l e' l=a1l e l
 | [],_=>rfl
 | x::l,h=>by
  simp only[a1l];rw[h x bx8,aav fun y hy=>h y (by simp[hy])]
def abh:∀{l:List Operand},(∀x∈l,e' x=e x)->a1q e' l=a1q e l
 | [],_=>rfl
 | x::l,h=>by
  simp only[a1q];rw[h x bx8,abh fun y hy=>h y (by simp[hy])]
def o9 {x:Option Operand} (h:∀y∈x.toList,e' y=e y):jv e' x=jv e x:=by
 cases x with
 |none=>rfl
 |some y=>simp only[jv];rw[h y bx8]
def ae1{b:Builtin}{args:List Operand}{tys:List TypeId}(h:∀x∈args,e' x=e x):ut E e' b args tys=ut E e b args tys:=by
 unfold ut;split
 · rename_i x t r
   rw[h x bx8]
 · rename_i x y
   rw[h x bx8,h y bx8]
 · rename_i x y
   rw[h x bx8,h y bx8]
 rfl
def awx (ho:∀k∈h.ids,o' k=o k):a7j o' h=a7j o h:=by
 cases h with
 |ref id n=>simp only[a7j];rw[ho id bxg]
 |win id n i m=>simp only[a7j];rw[ho id bxg]
 |row id i k=>simp only[a7j];rw[ho id bxg]
 |_=>rfl
variable {n:Nat}
def awl {i:Int} (ho:∀k∈h.ids,o' k=o k):abi o' n i h=abi o n i h:=by
 cases h with
 |ref id n=>simp only[abi];rw[ho id bxg]
 |win id n i m=>simp only[abi];rw[ho id bxg]
 |row id i k=>simp only[abi];rw[ho id bxg]
 |p x=>cases x<;>rfl
 |_=>rfl
def ane {x y z:Option Int} (ho:∀k∈h.ids,o' k=o k):a0u o' n x y z h=a0u o n x y z h:=by
 cases h with
 |ref id n=>simp only[a0u];rw[ho id bxg]
 |win id n i m=>simp only[a0u];rw[ho id bxg]
 |_=>rfl
def aj3{l:List Operand}{F:ar->HV->Option Out}{α:Type}{d:α}{G:Option Out->α}(hF:∀h:HV,(∀k∈h.ids,o' k=o k)->F o' h=F o h)(hl:x∈l)(ho:∀k∈dc e l,o' k=o k):
 (match e x with|some (.v (.one h))=>G (F o' h)|_=>d)=(match e x with|some (.v (.one h))=>G (F o h)|_=>d):=by
 cases hex:e x with
 |none=>rfl
 | some r =>
  cases r with
  |tup l=>rfl
  | v cc =>
   cases cc with
   |agg l=>rfl
   | one h =>
    dsimp only;rw[hF h fun k hk=>ho k (fe hex hl k hk)]
def ahl{b:Builtin}{args:List Operand}{tys:List TypeId}(h:∀x∈args,e' x=e x)(ho:∀k∈dc e args,o' k=o k):x7 E o' e' b args tys=x7 E o e b args tys:=by
 unfold x7;split
 · rename_i x t r
   rw[h x bx8]
   cases E t with
   |none=>rfl
   | some ti =>
    dsimp only;cases ti.k<;>try rfl
    exact aj3 (G:=id) (F:=a7j) (fun h hh=>awx hh) bx8 ho
 rfl
def ar7(ho:∀k∈dc e [x],o' k=o k):tu o' e x=tu o e x:=by
 unfold tu
 cases hex:e x with
 |none=>rfl
 | some r =>
  cases r with
  |tup l=>rfl
  | v cc =>
   cases cc with
   |agg l=>rfl
   | one h =>
    have:=a2a (o:=o) (o':=o') (h:=h) (fun k hk=>ho k (fe hex bx8 k hk))
    cases h with
    |p x=>cases x<;>rfl
    |ref id n=>rfl
    |ptr id off=>dsimp only;rw[this]
    |eptr id n i j=>dsimp only;rw[this]
    |win id n i m=>rfl
    |clo g k caps=>rfl
    |row id i k=>rfl
    |rptr id i k r j=>dsimp only;rw[this]
    |pin id n ad cap=>rfl
variable {t:TypeId}
def aq4(ho:∀k∈dc e [x],o' k=o k):o8 E o' e t x=o8 E o e t x:=by
 unfold o8
 cases E t with
 |none=>rfl
 | some i =>
  dsimp only
  cases hex:e x with
  |none=>rfl
  | some r =>
   cases r with
   |tup l=>rfl
   | v cc =>
    cases cc with
    |agg l=>rfl
    | one h =>
     dsimp only;rw[a2a (o:=o) (o':=o') (h:=h) (fun k hk=>ho k (fe hex bx8 k hk))]
def aaj{k:Nat}(ho:∀k∈dc e [x],o' k=o k):gz E o' e t x k=gz E o e t x k:=by
 unfold gz
 cases E t with
 |none=>rfl
 | some i =>
  dsimp only;cases i.k<;>try rfl
  rename_i fs;dsimp only
  cases fs[k]? with
  |none=>rfl
  | some q =>
   obtain⟨off,ft,bl⟩:=q;dsimp only
   cases E ft with
   |none=>rfl
   | some fi =>
    dsimp only
    cases hex:e x with
    |none=>rfl
    | some r =>
     cases r with
     |tup l=>rfl
     | v cc =>
      cases cc with
      |agg l=>rfl
      | one h =>
       dsimp only;rw[a2a (o:=o) (o':=o') (h:=h) (fun k hk=>ho k (fe hex bx8 k hk))]
variable {el:TypeId}{i:Operand}
def ac8{len:Nat}(ho:∀k∈dc e [x],o' k=o k):p9 E o' e len el x i=p9 E o e len el x i:=by
 unfold p9
 cases E el with
 |none=>rfl
 | some ei =>
  dsimp only
  cases hex:e x with
  |none=>rfl
  | some r =>
   cases r with
   |tup l=>rfl
   | v cc =>
    cases cc with
    |agg l=>rfl
    | one h =>
     dsimp only;rw[a2a (o:=o) (o':=o') (h:=h) (fun k hk=>ho k (fe hex bx8 k hk))]
def aak(ho:∀k∈dc e [x],o' k=o k):iz E o' e t x i=iz E o e t x i:=by
 unfold iz
 cases E t with
 |none=>rfl
 | some ii =>
  dsimp only;cases ii.k<;>try rfl
  case array len el=>exact ac8 ho
  rename_i el;dsimp only
  cases E el with
  |none=>rfl
  | some ei =>
   dsimp only
   cases hex:e x with
   |none=>rfl
   | some r =>
    cases r with
    |tup l=>rfl
    | v cc =>
     cases cc with
     |agg l=>rfl
     | one h =>
      dsimp only;have:=fun iv=>awl (o:=o) (o':=o') (h:=h) (n:=ei.size) (i:=iv) (fun k hk=>ho k (fe hex bx8 k hk));simp only[this]
def arb {kk:KK} {m:MK} {z:Value} {cm:Bool} (ho:∀k∈h.ids,o' k=o k):af2 o' kk m z cm h=af2 o kk m z cm h:=by
 cases h with
 |ref id n=>simp only[af2];rw[ho id bxg]
 |p y=>cases y<;>rfl
 |_=>rfl
def aga{cm:Bool}(ho:∀k∈dc e [x],o' k=o k):me E o' e t x i cm=me E o e t x i cm:=by
 unfold me
 cases E t with
 |none=>rfl
 | some ii =>
  dsimp only;cases ii.k<;>try rfl
  rename_i kt et;dsimp only
  cases ala E kt et with
  |none=>rfl
  | some q =>
   obtain⟨kk,z⟩:=q;dsimp only
   cases hex:e x with
   |none=>rfl
   | some r =>
    cases r with
    |tup l=>rfl
    | v cc =>
     cases cc with
     |agg l=>rfl
     | one h =>
      dsimp only;have:=fun m=>arb (o:=o) (o':=o') (h:=h) (kk:=kk) (m:=m) (z:=z) (cm:=cm) (fun k hk=>ho k (fe hex bx8 k hk));simp only[this]
def akw {op:BinOp} (ho:∀k∈h.ids,o' k=o k):a4c o' op h=a4c o op h:=by
 cases h with
 |ptr id n=>simp only[a4c];rw[ho id bxg]
 | p x=>cases x with
  |raw v=>cases v<;>rfl
  |_=>rfl
 |_=>rfl
def ahx{op:BinOp}{y:Operand}(ho:∀k∈dc e [x],o' k=o k):mb E o' e op t x y=mb E o e op t x y:=by
 unfold mb;split<;>try rfl
 cases E t with
 |none=>rfl
 | some ii =>
  dsimp only;cases ii.k<;>try rfl
  dsimp only
  cases hex:e x with
  |none=>rfl
  | some r =>
   cases r with
   |tup l=>rfl
   | v cc =>
    cases cc with
    |agg l=>rfl
    |one h=>exact akw (fun k hk=>ho k (fe hex bx8 k hk))
def bxa{p:Prop}(h:p:=by simp[Op.operands]):p:=h
variable {op:Op}
def b7a(hx:∀x∈op.operands,e' x=e x)(ho:∀k∈dc e op.operands.toList,o' k=o k):hq E ex o' e' op=hq E ex o e op:=by
 cases op<;>try rfl
 case move x=>show Option.map _ (e' x)=Option.map _ (e x);rw[hx x bxa]
 case assign x=>show Option.map _ (e' x)=Option.map _ (e x);rw[hx x bxa]
 case pick c x y =>
  show a3u e' c x y=a3u e c x y;unfold a3u;rw[hx c bxa,hx x bxa,hx y bxa]
 case nilCheck x =>
  show tu o' e' x=tu o e x;have h1:tu o' e' x=tu o' e x:=by unfold tu;rw[hx x bxa]
  rw[h1];exact ar7 (by simpa [Op.operands]using ho)
 case load t x =>
  show o8 E o' e' t x=o8 E o e t x;have h1:o8 E o' e' t x=o8 E o' e t x:=by unfold o8;rw[hx x bxa]
  rw[h1];exact aq4 (by simpa [Op.operands]using ho)
 case fieldAddr t x k =>
  show gz E o' e' t x k=gz E o e t x k;have h1:gz E o' e' t x k=gz E o' e t x k:=by unfold gz;rw[hx x bxa]
  rw[h1];exact aaj (by simpa [Op.operands]using ho)
 case field t x k =>
  show a07 E e' t x k=a07 E e t x k;unfold a07;rw[hx x bxa]
 case indexAddr t x i =>
  show iz E o' e' t x i=iz E o e t x i;have h1:iz E o' e' t x i=iz E o' e t x i:=by unfold iz p9;rw[hx x bxa,hx i bxa]
  rw[h1];refine aak fun k hk=>ho k ?_;simp only[dc,Op.operands,btq]at hk ⊢;exact btk _ hk
 case lookup t x i cm =>
  show me E o' e' t x i cm=me E o e t x i cm;have h1:me E o' e' t x i cm=me E o' e t x i cm:=by unfold me;rw[hx x bxa,hx i bxa]
  rw[h1];refine aga fun k hk=>ho k ?_;simp only[dc,Op.operands,btq]at hk ⊢;exact btk _ hk
 case index t x i =>
  show a0d E e' t x i=a0d E e t x i;unfold a0d;rw[hx x bxa,hx i bxa]
 case binOp op t x y ty =>
  have h1:a99 E ex e' op t x y=a99 E ex e op t x y:=by
   unfold a99;rw[hx x bxa,hx y bxa]
  have h2:xa E e' op t x y=xa E e op t x y:=by
   unfold xa;rw[hx x bxa]
  have h3:mb E o' e' op t x y=mb E o e op t x y:=by
   have h1:mb E o' e' op t x y=mb E o' e op t x y:=by unfold mb;rw[hx x bxa]
   rw[h1];refine ahx fun k hk=>ho k ?_;simp only[dc,Op.operands,btq]at hk ⊢;exact btk _ hk
  simp only[hq];rw[h1,h2,h3]
 case unOp op t x =>
  show aic ex e' op x=aic ex e op x;unfold aic;rw[hx x bxa]
 case convert src dst x =>
  show a34 E ex e' src dst x=a34 E ex e src dst x;unfold a34;rw[hx x bxa]
 case extract x i =>
  show ux e' x i=ux e x i;unfold ux;rw[hx x bxa]
 case slice t x lo hi mx =>
  have e0:=hx x bxa;have e1:=o9 (e:=e) (e':=e') (x:=lo) (fun y hy=>hx y (by simp[Op.operands];simp at hy;simp[hy]));have e2:=o9 (e:=e) (e':=e') (x:=hi) (fun y hy=>hx y (by simp[Op.operands];simp at hy;simp[hy]));have e3:=o9 (e:=e) (e':=e') (x:=mx) (fun y hy=>hx y (by simp[Op.operands];simp at hy;simp[hy]))
  have h1:my E e' t x lo hi mx=my E e t x lo hi mx:=by
   unfold my;rw[e0,e1,e2,e3]
  have h2:a9g E o' e' t x lo hi mx=a9g E o e t x lo hi mx:=by
   unfold a9g;rw[e0,e1,e2,e3]
   cases E t with
   |none=>rfl
   | some ti =>
    dsimp only;cases ti.k<;>try rfl
    rename_i el;dsimp only
    cases E el with
    |none=>rfl
    | some ei =>
     dsimp only
     cases jv e lo with
     |none=>rfl
     | some l =>
      cases jv e hi with
      |none=>rfl
      | some hh =>
       cases jv e mx with
       |none=>rfl
       | some m =>
        dsimp only;exact aj3 (G:=id) (F:=fun o h=>a0u o ei.size l hh m h) (fun h hh=>ane hh) (l:=(Op.slice t x lo hi mx).operands.toList) bxa ho
  simp only[hq];rw[h1,h2]
 case makeFunc fn first caps =>
  show a3o e' fn first.toList caps.toList=a3o e fn first.toList caps.toList
  unfold a3o;rw[aav (l:=caps.toList) (fun y hy=>hx y (by simp[Op.operands];simp at hy;exact .inr hy)),abh (l:=caps.toList) (fun y hy=>hx y (by simp[Op.operands];simp at hy;exact .inr hy))];split
  · rfl
  · rename_i f x hf
    rw[hx x (by simp[Op.operands];left;rw[<- Array.mem_toList_iff,hf];simp)]
  rfl
 case build t parts =>
  show zx E e' t parts.toList=zx E e t parts.toList;have hf:∀places cells,j4 e' places cells parts.toList=j4 e places cells parts.toList:=fun places cells=>a2i fun x hm=>hx x (by simpa [Op.operands]using hm);unfold zx;simp only[hf]
 case call c =>
  simp only[hq]
  cases hc:c.callee with
  |value f=>rfl
  |invoke r m=>rfl
  | builtin b =>
   simp only[Op.operands,Call.operands,hc]at hx ho;have h1:∀x∈c.args.toList,e' x=e x:=fun x hm=>hx x (by simpa using hm);have h2:∀k∈dc e c.args.toList,o' k=o k:=fun k hk=>ho k (by simpa using hk);dsimp only;rw[ae1 h1,ahl h1 h2]
variable {id:Nat}
def b4z(hx:∀x∈op.operands,e' x=e x):ha E e' id op=ha E e id op:=by
 cases op<;>simp only[ha]<;>simp only[Op.operands]at hx
 case box t x=>rw[hx x bx8]
 case buildSlice t n parts =>
  have hf:∀sz cells,a9i e' sz n parts.toList cells=a9i e sz n parts.toList cells:=fun sz cells=>by
   unfold a9i;exact a2i fun x hm=>hx x (by simpa using hm)
  simp only[hf]
 case makeSlice t l c=>rw[hx l bx8,hx c bx8]
def al1{y:Operand}(ho:∀k∈dc e [x,y],o' k=o k):mw E o' e t x y=mw E o e t x y:=by
 unfold mw
 cases E t with
 |none=>rfl
 | some i =>
  cases hv:e y with
  |none=>rfl
  | some rv =>
   cases rv with
   |tup l=>rfl
   | v cv =>
    cases hex:e x with
    |none=>rfl
    | some r =>
     cases r with
     |tup l=>rfl
     | v cc =>
      cases cc with
      |agg l=>rfl
      | one h =>
       cases h with
       |p x=>cases x<;>rfl
       |ref id n=>rfl
       |ptr id off=>dsimp only;rw[ho id (fe hex bx8 id (by simp[HR.ids,HC.ids,HV.ids]))]
       |eptr id n r j=>dsimp only;rw[ho id (fe hex bx8 id (by simp[HR.ids,HC.ids,HV.ids]))]
       |win id n i m=>rfl
       |clo g k caps=>rfl
       |row id i k=>rfl
       |rptr id i k r j=>dsimp only;rw[ho id (fe hex bx8 id (by simp[HR.ids,HC.ids,HV.ids]))]
       |pin id n ad cap=>rfl
def amm {kk:KK} {m:MK} {y:PV} (ho:∀k∈h.ids,o' k=o k):a7l o' kk m y h=a7l o kk m y h:=by
 cases h with
 |ref id n=>simp only[a7l];rw[ho id bxg]
 |_=>rfl
def aao{v:Operand}(ho:∀k∈dc e [x],o' k=o k):mz E o' e t x i v=mz E o e t x i v:=by
 unfold mz
 cases E t with
 |none=>rfl
 | some ii =>
  dsimp only;cases ii.k<;>try rfl
  rename_i kt et;dsimp only
  cases E kt with
  |none=>rfl
  | some ki =>
   dsimp only
   cases hex:e x with
   |none=>rfl
   | some r =>
    cases r with
    |tup l=>rfl
    | v cc =>
     cases cc with
     |agg l=>rfl
     | one h =>
      dsimp only;have:=fun kk m y=>amm (o:=o) (o':=o') (h:=h) (kk:=kk) (m:=m) (y:=y) (fun k hk=>ho k (fe hex bx8 k hk));simp only[this]
def amp (hx:∀x∈op.operands,e' x=e x) (ho:∀k∈dc e op.operands.toList,o' k=o k):hs E o' e' op=hs E o e op:=by
 cases op<;>try rfl
 case mapUpdate t x i v =>
  show mz E o' e' t x i v=mz E o e t x i v;have h1:mz E o' e' t x i v=mz E o' e t x i v:=by unfold mz;rw[hx x bxa,hx i bxa,hx v bxa]
  rw[h1];refine aao fun k hk=>ho k ?_;simp only[dc,Op.operands,btq]at hk ⊢;exact btk _ hk
 case insert t x i v =>
  show mz E o' e' t x i v=mz E o e t x i v;have h1:mz E o' e' t x i v=mz E o' e t x i v:=by unfold mz;rw[hx x bxa,hx i bxa,hx v bxa]
  rw[h1];refine aao fun k hk=>ho k ?_;simp only[dc,Op.operands,btq]at hk ⊢;exact btk _ hk
 case store t addr v =>
  show mw E o' e' t addr v=mw E o e t addr v;have h1:mw E o' e' t addr v=mw E o' e t addr v:=by unfold mw;rw[hx addr bxa,hx v bxa]
  rw[h1];exact al1 (by simpa [Op.operands]using ho)
def ab3(ho:∀k∈h.ids,o' k=o k):zt o' id h=zt o id h:=by
 cases h with
 | p x =>
  cases x with
  | raw v =>
   cases v with
   |slice a n c=>cases n<;>rfl
   |_=>rfl
  |_=>rfl
 |ref id' n=>simp only[zt];rw[ho id' bxg]
 |_=>rfl
variable {wb:Bool}
def a2s {y:HV} (hid:o' id=o id) (ho:∀k∈y.ids,o' k=o k):tz E o' id n wb el y=tz E o id n wb el y:=by
 simp only[tz];rw[hid,ab3 ho]
def aej (ho:∀k∈h.ids,o' k=o k):a6x o' id h=a6x o id h:=by
 simp only[a6x];rw[ab3 ho]
 cases h with
 |ref id' n=>simp only;rw[ho id' bxg]
 |_=>rfl
def ap1 {y:HV} (hid:o' id=o id) (ho:∀k∈y.ids,o' k=o k):a1c E o' id n el y=a1c E o id n el y:=by
 simp only[a1c];rw[hid,aej ho]
def awc {y:HV} (hid:o' id=o id) (ho:∀k∈y.ids,o' k=o k):acu E o' id n el y=acu E o id n el y:=by
 simp only[acu];rw[hid,aej ho]
def arh {i k:Nat} {y:HV} (hid:o' id=o id):a4y E o' el id n i k y=a4y E o el id n i k y:=by
 unfold a4y;rw[hid]
def avw {z:List Value} (ho:∀k∈h.ids,o' k=o k):agx o' z n h=agx o z n h:=by
 cases h with
 |win id n i m=>simp only[agx];rw[ho id bxg]
 |_=>rfl
def ar4{hy hx:HV}(h1:∀k∈hx.ids,o' k=o k)(h2:∀k∈hy.ids,o' k=o k):za E o' id wb el hy hx=za E o id wb el hy hx:=by
 cases hx with
 | win id1 n i k =>
  simp only[za];exact arh (h1 id1 bxg)
 | pin id1 n ad cap =>
  simp only[za];rw[a2s (o:=o) (o':=o') (h1 id1 bxg) h2]
 | ref id1 n =>
  simp only[za];rw[a2s (o:=o) (o':=o') (h1 id1 bxg) h2,ap1 (o:=o) (o':=o') (h1 id1 bxg) h2,awc (o:=o) (o':=o') (h1 id1 bxg) h2]
 | p px =>
  cases px with
  | sl n sz cl f =>
   cases cl with
   |false=>rfl
   | true =>
    simp only[za]
    cases E el with
    |none=>rfl
    | some ei =>
     dsimp only
     rw [a2s (o:=fun k=>if k=id then some (aa.arr false ei.size el n f)else o k) (o':=fun k=>if k=id then some (aa.arr false ei.size el n f)else o' k) bx8 (fun k hk=>by
      try dsimp only
      split
      · rfl
      exact h2 k hk)]
  |_=>rfl
 |_=>rfl
def arl{x y:Option HR}(hx:∀r,x=some r->∀k∈r.ids,o' k=o k)(hy:∀r,y=some r->∀k∈r.ids,o' k=o k):
 a9s E o' id wb t x y=a9s E o id wb t x y:=by
 unfold a9s
 cases E t with
 |none=>rfl
 | some i =>
  dsimp only;cases i.k<;>try rfl
  rename_i el
  cases x with
  |none=>rfl
  | some rx =>
   cases rx with
   |tup l=>rfl
   | v cx =>
    cases cx with
    |agg l=>rfl
    | one hxv =>
     cases y with
     |none=>rfl
     | some ry =>
      cases ry with
      |tup l=>rfl
      | v cy =>
       cases cy with
       |agg l=>rfl
       |one hyv=>exact ar4 (hx _ rfl) (hy _ rfl)
def ay0(hx:∀x∈op.operands,e' x=e x)(ho:∀k∈dc e op.operands.toList,o' k=o k):hap E o' e' id wb op=hap E o e id wb op:=by
 cases op<;>try rfl
 case call c =>
  unfold hap;dsimp only;split
  · rename_i hc
    simp only[Op.operands,Call.operands,hc]at hx ho;have h1:∀x∈c.args.toList,e' x=e x:=fun x hm=>hx x (by simpa using hm);have h2:∀k∈dc e c.args.toList,o' k=o k:=fun k hk=>ho k (by simpa using hk);generalize c.args.toList=l at h1 h2;unfold a9h;split
    · rename_i x y t t' _
      split
      · rw [h1 x bx8,h1 y bx8]
        exact arl (fun r hr k hk=>h2 k (fe hr bx8 k hk)) (fun r hr k hk=>h2 k (fe hr bx8 k hk))
      rfl
    rfl
  · rename_i hc
    simp only[Op.operands,Call.operands,hc]at hx ho;have h1:∀x∈c.args.toList,e' x=e x:=fun x hm=>hx x (by simpa using hm);have h2:∀k∈dc e c.args.toList,o' k=o k:=fun k hk=>ho k (by simpa using hk);generalize c.args.toList=l at h1 h2;unfold a0s;split
    · rename_i x t _
      rw[h1 x bx8]
      cases E t with
      |none=>rfl
      | some ti =>
       dsimp only;cases ti.k<;>try rfl
       rename_i el;dsimp only
       cases E el with
       |none=>rfl
       | some ei =>
        dsimp only
        cases ei.zero with
        |none=>rfl
        | some z =>
         dsimp only;split
         · cases hex:e x with
           |none=>rfl
           | some r =>
            cases r with
            |tup l=>rfl
            | v cc =>
             cases cc with
             |agg l=>rfl
             |one hv=>exact avw fun k hk=>h2 k (fe hex bx8 k hk)
         rfl
    rfl
  rfl
def ab6 (ho:∀k∈h.ids,o' k=o k):a4m o' h=a4m o h:=by
 cases h with
 |ref id n=>simp only[a4m];rw[ho id bxg]
 |_=>rfl
end
end
end
end Go.Hx

/- A part of the proof: Hx10 Hx11 Hx12. -/
import Derived.Laws.IdiomStrings
import Derived.OrdersIn
import Derived.RangeFuncCalls
import Derived.RangeFuncNested
import Derived.Test.YtcepfnkhagkdeaaGreatDoorUx03
set_option linter.all false
namespace Go.Hx
section
open Go.RowKit
def a6 (P:Program) (f:FuncId) (args:List PC) (res:PR):Prop :=
 ∀ (w:World) (imm:Dc) (us:List Value),vk imm->(∀b ob,imm b=some ob->w.heap[b]? = some ob)->ck imm args us ->
  Calls P f us.toArray w λe w'=>∃v imm',e=.returned v/\qj imm' res v/\(∀b,b<w.heap.size->imm' b=imm b)/\(∀b ob,imm' b=some ob->w'.heap[b]? = some ob)/\Below w.heap.size w w'
def Vt (o:av):HV->Option (Prop×PV×Bool)
 | .p x=>some (True,x,false)
 | .ref id n =>
  match o id with
  |some (.arr _ s _ n' f)=>some (n'=n, .sl n s false f,true)
  |_=>none
 |_=>none
def zb (o:av):List HV->Option (Prop×List PV×Bool)
 | []=>some (True,[],false)
 | x::r =>
  match Vt o x,zb o r with
  |some (p,y,b),some (q,ys,b')=>some (p/\q,y::ys,b||b')
  |_,_=>none
def Dw(o:av):HV->Option (Prop×PV×Bool)
 | .ptr id off =>
  match o id with
  | some (.box l) =>
   match zb o (l.drop off) with
   |some (p,ys,_)=>some (p, .vp ys.length λj=>ys.getD j .any,true)
   |none=>none
  |_=>none
 |h=>Vt o h
def Lr (o:av):HC->Option (Prop×PC×Bool)
 | .one h=>match Dw o h with|some (p,y,b)=>some (p, .one y,b)|none=>none
 | .agg l=>match zb o l with|some (p,ys,b)=>some (p, .agg ys,b)|none=>none
def lq (o:av) (e:Ev):List Operand->Option (Prop×List PC×Bool)
 | []=>some (True,[],false)
 | x::r =>
  match e x,lq o e r with
  |some (.v cc),some (q,ys,b')=>match Lr o cc with|some (p,y,b)=>some (p/\q,y::ys,b||b')|none=>none
  |_,_=>none
def gu (caps:Nat->PV):Nat->Nat->List PC
 |0,_=>[]
 |n+1,i=>.one (caps i)::gu caps n (i+1)
def PV.flat:PV->Bool
 | .raw _=>true
 | .any=>true
 |_=>false
def kD:List PV->Bool
 | []=>true
 |x::r=>x.flat&&kD r
def PC.flat:PC->Bool
 | .one x=>x.flat
 | .agg l=>kD l
def ID:List PC->Bool
 | []=>true
 |x::r=>x.flat&&ID r
def PR.flat:PR->Bool
 | .v x=>x.flat
 | .tup l=>ID l
section
variable {m m':Dc}
def aq.flat {x:PV} {u:Value} (hf:x.flat=true) (h:aq m x u):aq m' x u:=by
 cases x<;>simp[PV.flat]at hf<;>exact h
def fv.flat:∀{xs:List PV} {us:List Value},kD xs=true->fv m xs us->fv m' xs us
 | [],[],_,_=>trivial
 | _::_,_::_,hf,h=>by
  simp only[kD,Od]at hf;exact⟨h.1.flat hf.1,fv.flat hf.2 h.2⟩
 | [],_::_,_,h=>h.elim
 |_::_,[],_,h=>h.elim
def mr.flat {x:PC} {u:Value} (hf:x.flat=true) (h:mr m x u):mr m' x u:=by
 cases x with
 |one x=>exact aq.flat hf h
 |agg l=>obtain⟨us,e,hl⟩:=h;exact⟨us,e,hl.flat hf⟩
def ck.flat:∀{xs:List PC} {us:List Value},ID xs=true->ck m xs us->ck m' xs us
 | [],[],_,_=>trivial
 | _::_,_::_,hf,h=>by
  simp only[ID,Od]at hf;exact⟨h.1.flat hf.1,ck.flat hf.2 h.2⟩
 | [],_::_,_,h=>h.elim
 |_::_,[],_,h=>h.elim
def qj.flat {x:PR} {u:Value} (hf:x.flat=true) (h:qj m x u):qj m' x u:=by
 cases x with
 |v x=>exact mr.flat hf h
 |tup l=>obtain⟨us,e,hl⟩:=h;exact⟨us,e,hl.flat hf⟩
def fg(w:World):Dc:=λb=>w.heap[b]?
end
section
variable {P:Program}{E:Xc}{w0:World}{nt:Nat}{c:Pc}{s:S}{a:Act}{w:World}
structure Mm (w0:World) (c:Pc) (w:World) (m:Dc):Prop where
 le:Dc.le c.imm m
 new:∀b,c.frm b=none->b<w.heap.size->m b=w.heap[b]?
def rz(h:ah w0 nt c s a w):Dc.le c.imm (fg w):=λb ob hb=>h.imm b ob hb
def b6v(h:ah w0 nt c s a w):Mm w0 c w (fg w):=⟨rz h,λ_ _ _=>rfl⟩
section
variable {m:Dc}
theorem sW (hm:Mm w0 c w m) {b off:Nat} {x:Value} (hb:c.frm b=none) (hc:w.cell? ⟨b,off,none⟩=some x):gz m b off=some x:=by
 have hlt:=World.block_lt_of_cell? w _ hc;unfold World.cell? at hc;unfold gz;rw[hm.new b hb hlt]
 grind
def IW(h:ah w0 nt c s a w)(hm:Mm w0 c w m){x:HV}{u:Value}(hu:bc c s.o x u){p:Prop}{y:PV}{b:Bool}(hv:Vt s.o x=some (p,y,b))(hp:p):
 aq m y u/\(b=false->aq c.imm y u):=by
 unfold Vt at hv;split at hv
 .simp only [Bb,Tc]at hv
  obtain⟨_,rfl,rfl⟩:=hv;exact⟨aq.mono hm.le hu,λ_=>hu⟩
 .rename_i id n
  split at hv<;>try(cases hv;done)
  rename_i wr sz e n' f ho;simp only[Bb,Tc]at hv;obtain⟨rfl,rfl,rfl⟩:=hv;obtain rfl:n'=n:=hp;refine⟨?_,λhb=>by cases hb⟩;obtain⟨_,_,h3⟩:=hu;have hown:=(h3 _ _ _ _ ho rfl).2 rfl;obtain⟨h0,h1,h5⟩:=h.objs id _ ho
  rcases h5 with⟨h6,xs,h2,h4⟩|⟨h6,h7,h8⟩
  .rcases h2.2 with⟨hv,hz⟩|⟨g,cap,cur,hv,hbase,hheap,hcap,hmax,hcs,htake⟩
   .exact⟨none,0,by rw[hown,hv,hz],by omega,by simp[maxLen],(λhh=>by cases hh),λhn=>by omega⟩
   refine⟨_,cap,by rw[hown,hv],hcap,hmax,(λhh=>by cases hh),λhn=>⟨g,0,rfl,λi j hi hj=>?_⟩⟩;obtain⟨x,hx,hr⟩:=h4 i j hi hj;have:=h2.cells (g:=g) (by rw[hv];rfl) _ _ hx;rw[add_lit]at this;exact⟨x,sW hm (h.fsep id _ g ho (by rw[h6,hv];rfl)) this,aq.mono hm.le hr⟩
  obtain⟨ad,cap,q1,q2,q3,q4,q5⟩:=aq.mono hm.le h8;rw[hown];exact⟨ad,cap,q1,q2,q3,(λhh=>by cases hh),q5⟩
 cases hv
def GL(h:ah w0 nt c s a w)(hm:Mm w0 c w m):∀{xs:List HV} {us:List Value} (_:b7 c s.o xs us) {p:Prop} {ys:List PV} {b:Bool} (_:zb s.o xs=some (p,ys,b)) (_:p),
 fv m ys us/\(b=false->fv c.imm ys us)
 | [],[],_,p,ys,b,hv,_=>by
  simp only[zb,Bb,Tc]at hv;obtain⟨_,rfl,_⟩:=hv;exact⟨Aa,λ_=>trivial⟩
 | x :: xs,u::us,hu,p,ys,b,hv,hp=>by
  simp only[zb]at hv;split at hv<;>try(cases hv;done)
  rename_i p1 y1 b1 p2 ys2 b2 h1 h2;simp only[Bb,Tc]at hv;obtain⟨rfl,rfl,rfl⟩:=hv;obtain⟨q1,q2⟩:=IW h hm hu.1 h1 hp.1;obtain⟨q3,q4⟩:=GL h hm hu.2 h2 hp.2
  exact ⟨⟨q1,q3⟩,λhb=>by
   rw[Bool.or_eq_false_iff]at hb
   exact⟨q2 hb.1,q4 hb.2⟩⟩
 | [],_::_,hu,_,_,_,_,_=>hu.elim
 |_::_,[],hu,_,_,_,_,_=>hu.elim
theorem arj (h:ah w0 nt c s a w) (hm:Mm w0 c w m) {x:HV} {u:Value} (hu:bc c s.o x u) {p:Prop} {y:PV} {b:Bool} (hv:Dw s.o x=some (p,y,b)) (hp:p):
 aq m y u/\(b=false->aq c.imm y u):=by
 unfold Dw at hv;split at hv
 .rename_i id off
  split at hv<;>try(cases hv;done)
  rename_i l hl;split at hv<;>try(cases hv;done)
  rename_i q ys bb hvl;simp only[Bb,Tc]at hv;obtain⟨rfl,rfl,rfl⟩:=hv;refine⟨?_,λhb=>by cases hb⟩;obtain⟨_,_,h3⟩:=hu;obtain⟨bk,hb,rfl⟩:=h3 l hl;obtain⟨b',C,e,h1,hblk,h2,h4,h5⟩:=h.objs id _ hl;rw[hb]at h1;simp only[Value.pointer.injEq,Bb,Addr.mk.injEq,and_true]at h1;subst h1;obtain⟨q1,_⟩:=GL h hm (h5.drop off) hvl hp;refine⟨bk,off,rfl,λj hj=>?_⟩;obtain⟨v,hv,hr⟩:=q1.get j ys[j] (Hc hj);refine⟨v,sW hm (h.fsep id _ bk hl (by rw[hblk];rfl)) ?_,by simpa [List.getD,Hc hj]using hr⟩;rw[cell_of_row w bk (off+j) C e (0,0) h4]
  grind
 exact IW h hm hu hv hp
def DW(h:ah w0 nt c s a w)(hm:Mm w0 c w m){x:HC}{u:Value}(hu:gp c s.o x u){p:Prop}{y:PC}{b:Bool}(hv:Lr s.o x=some (p,y,b))(hp:p):
 mr m y u/\(b=false->mr c.imm y u):=by
 unfold Lr at hv;split at hv
 .split at hv<;>try(cases hv;done)
  rename_i hvp;simp only[Bb,Tc]at hv;obtain⟨rfl,rfl,rfl⟩:=hv;exact arj h hm hu hvp hp
 split at hv<;>try(cases hv;done)
 rename_i hvl;simp only[Bb,Tc]at hv;obtain⟨rfl,rfl,rfl⟩:=hv;obtain⟨us,rfl,hl⟩:=hu;obtain⟨q1,q2⟩:=GL h hm hl hvl hp;exact⟨⟨us,rfl,q1⟩,λhb=>⟨us,rfl,q2 hb⟩⟩
def fX(h:ah w0 nt c s a w)(hm:Mm w0 c w m):∀{xs:List Operand} {p:Prop} {ys:List PC} {b:Bool} (_:lq s.o (ev s) xs=some (p,ys,b)) (_:p),
 ck m ys (xs.map a.eval)/\(b=false->ck c.imm ys (xs.map a.eval))
 | [],p,ys,b,hv,_=>by
  simp only[lq,Bb,Tc]at hv;obtain⟨_,rfl,_⟩:=hv;exact⟨Aa,λ_=>trivial⟩
 | x :: xs,p,ys,b,hv,hp=>by
  simp only[lq]at hv;split at hv<;>try(cases hv;done)
  rename_i cc q ys2 b2 hx h2;split at hv<;>try(cases hv;done)
  rename_i p1 y1 b1 h1;simp only[Bb,Tc]at hv;obtain⟨rfl,rfl,rfl⟩:=hv;obtain⟨q1,q2⟩:=DW h hm (ae h hx) h1 hp.1;obtain⟨q3,q4⟩:=fX h hm h2 hp.2
  exact ⟨⟨q1,q3⟩,λhb=>by
   rw[Bool.or_eq_false_iff]at hb
   exact⟨q2 hb.1,q4 hb.2⟩⟩
def RL {caps:Nat->PV}:∀(n i:Nat) (cs:List Value),cs.length=i+n->(∀j,j<i+n->∃x,cs[j]? = some x/\aq m (caps j) x)->ck m (gu caps n i) (cs.drop i)
 | 0,i,cs,hl,_=>by
  rw[Hv Za];trivial
 | n+1,i,cs,hl,h=>by
  rw[Ss Za];obtain⟨x,hx,hr⟩:=h i Za;rw[Hc Za]at hx;simp only[Bb]at hx;subst hx;exact⟨hr,RL n (i+1) cs Za λj hj=>h j Za⟩
def ck.append:∀{xs ys:List PC} {us vs:List Value},ck m xs us->ck m ys vs->ck m (xs++ys) (us++vs)
 | [],_,[],_,_,h=>h
 |_::_,_,_::_,_,h,k=>⟨h.1,ck.append h.2 k⟩
 | [],_,_::_,_,h,_=>h.elim
 |_::_,_,[],_,h,_=>h.elim
end
end
def HC.ids:HC->List Nat
 | .one h=>h.ids
 | .agg l=>jp l
def Mt:List HC->List Nat
 | []=>[]
 |x::r=>x.ids++Mt r
def HR.ids:HR->List Nat
 | .v x=>x.ids
 | .tup l=>Mt l
def a8.ids:a8->List Nat
 | .mp ..=>[]
 | .bld ..=>[]
 | .ex ..=>[]
 | .bun _=>[]
 | .opq ..=>[]
 | .box l=>jp l
 | .arr ..=>[]
 | .arrh _ _ _ ms _=>ms
 | .nest _ _ _ _ _ _ (some p)=>[p.1]
 | .nest _ _ _ _ _ _ none=>[]
theorem HC.men_ids {x:HC} {k:Nat} (h:x.men k):k∈x.ids:=by
 cases x with
 |one h'=>exact HV.men_ids h
 |agg l=>exact ol h
def HU:∀{l:List HC} {k:Nat},(∃h∈l,h.men k)->k∈Mt l
 | [],_,⟨_,h,_⟩=>by cases h
 | x::r,k,⟨h,hm,hk⟩=>by
  rcases Jd.1 hm with rfl|hm
  .exact Ig _ (HC.men_ids hk)
  exact Bh _ (HU ⟨h,hm,hk⟩)
theorem HR.men_ids {x:HR} {k:Nat} (h:x.men k):k∈x.ids:=by
 cases x with
 |v x=>exact HC.men_ids h
 |tup l=>exact HU h
def a8.men_ids {x:a8} {k:Nat} (h:x.men k):k∈x.ids:=by
 cases x with
 |mp kk n f=>exact h.elim
 |bld fr T e l=>exact h.elim
 |ex d v b x=>exact h.elim
 |bun B=>exact h.elim
 |opq s e n R=>exact h.elim
 |box l=>exact ol h
 |arr wr s e n f=>exact h.elim
 |arrh s e n ms f=>exact h
 |nest e et es n m g pd=>cases pd with|none=>exact h.elim|some p=>exact Bf.2 h
def dv (e:Ev):List Operand->List Nat
 | []=>[]
 |x::r=>(match e x with|some v=>v.ids|none=>[])++dv e r
structure Tp where
 id:Nat
 wb:Bool
 ex:Bool
 res:PR
 W:List Nat
 N:List Nat
 M:List Nat
def b6 (ops:Array Oper) (s:S) (o:Oper):Option Bool :=
 match o.guard with
 |none=>some true
 | some (j,want) =>
  match (ops[j]?).bind (·.dst) with
  |some d=>match s.t d with|some (.v (.one (.p (.raw (.bool b)))))=>some (b==want)|some (.tup [])=>some false|_=>none
  |none=>none
def dc (nt:Nat):Option Tmp->Bool
 |none=>true
 |some d=>decide (d<nt)
def Wy (f:Nat->PV):Nat->Nat->List PV
 |0,_=>[]
 |n+1,i=>f i::Wy f n (i+1)
def eV {m:Dc} {f:Nat->PV}:∀(n i:Nat) (cs:List Value),cs.length=i+n->(∀j,j<i+n->∃x,cs[j]? = some x/\aq m (f j) x)->fv m (Wy f n i) (cs.drop i)
 | 0,i,cs,hl,_=>by
  rw[Hv Za];trivial
 | n+1,i,cs,hl,h=>by
  obtain⟨x,hx,hr⟩:=h i Za;have hlt:i<cs.length:=by omega
  rw[Ss hlt];rw[Hc hlt]at hx;simp only[Bb]at hx;rw[hx];exact⟨hr,eV n (i+1) cs Za λj hj=>h j Za⟩
def callee (e:Ev) (cl:Call):Option (FuncId×List PC×List PC) :=
 match cl.callee with
 | .value f =>
  match e f with
  |some (.v (.one (.p (.fn g k caps))))=>some (g,[],gu caps k 0)
  |some (.v (.one (.p (.bnd g m fr))))=>some (g,[.agg (Wy fr m 0)],[])
  |_=>none
 |_=>none
def jI (caps:Nat->HV):Nat->Nat->List HC
 |0,_=>[]
 |n+1,i=>.one (caps i)::jI caps n (i+1)
def wv (e:Ev) (cl:Call):Option (FuncId×List HC) :=
 match cl.callee with
 | .value f =>
  match e f with
  |some (.v (.one (.p (.fn g k caps))))=>some (g,(gu caps k 0).map PC.toH)
  |some (.v (.one (.clo g k caps)))=>some (g,jI caps k 0)
  |_=>none
 |_=>none
def wZ(P:Program)(f:FuncId)(args:List PC)(res:PR):Prop:=∀(m:Dc) (us:List Value) (w:World),ck m args us->∃v,(callFunc f us.toArray).run P w=.ok (.value v) w/\qj m res v
def goodFn (P : Program) (f : FuncId) : Prop := ∃ fn, P.funcs[f]? = some fn /\ (fn.name == "runtime.NumGoroutine") = false /\ fn.body.isNone = false
theorem S.setW_one (s:S) (id:Nat) (ob:a8):s.setW [(id,some ob)]=s.setO id (some ob):=by
 unfold S.setW S.setO;simp only[S.mk.injEq,true_and];funext k;by_cases hk:k=id
 .subst hk;simp[jb]
 have:Nat.beq id k=false:=by
  rw[Ie];exactλhb=>hk (Vi hb).symm
 simp[jb,this,hk]
theorem S.setW_none (s:S) (id:Nat):s.setW [(id,none)]=s.setO id none:=by
 unfold S.setW S.setO;simp only[S.mk.injEq,true_and];funext k;by_cases hk:k=id
 .subst hk;simp[jb]
 have:Nat.beq id k=false:=by
  rw[Ie];exactλhb=>hk (Vi hb).symm
 simp[jb,this,hk]
def tg (e:Ev):List Operand->Option (List HC)
 | []=>some []
 | x::r =>
  match e x,tg e r with
  |some (.v cc),some l=>some (cc::l)
  |_,_=>none
def Bt:List (Nat×a8)->List Nat
 | []=>[]
 |(_,x)::r=>x.ids++Bt r
theorem AT (w:World) (o:Obj) {k:Nat} (h:k<w.heap.size):(w.drew.alloc o).heap[k]? = w.heap[k]?:=by
 show(w.heap.push o)[k]? = w.heap[k]?
 grind
def xC(b:ByteArray):Nat->Nat->PV:=λi _=>.raw (.int .u8 (c5 b i))
def DA(E:Xc)(e:Ev)(sr ds:TypeId)(x:Operand):Option ByteArray :=
 match E sr,E ds,e x with
 | some ti,some td,some (.v (.one (.p (.raw (.string b))))) =>
  match ti.k,td.k with
  | .string, .slice el =>
   match E el with
   |some ei=>match ei.k with | .int .u8=>some b|_=>none
   |none=>none
  |_,_=>none
 |_,_,_=>none
inductive Ai (P:Program) (E:Xc) (nt:Nat) (ops:Array Oper) (o:Oper) (an:Tp) (s:S):Option HR->Wr->Prop where
 |cut (out:Ge) (id:Nat) (hw:b6 ops s o=some true) (hd:dc nt o.dst=true) (hq':zi E s.o (ev s) o.op=some (out,id)) (hp:out.pre) (hW:an.W=[id]):Ai P E nt ops o an s (some out.val) [(id,none)]
 |skip (hw:b6 ops s o=some false) (hd:dc nt o.dst=true):Ai P E nt ops o an s (some (.tup [])) []
 |quiet (out:Ge) (hw:b6 ops s o=some true) (hd:dc nt o.dst=true) (hq':hq E an.ex s.o (ev s) o.op=some out) (hp:out.pre) (hM:out.val.ids=an.M):Ai P E nt ops o an s (some out.val) []
 | make (nw:Uy) (hw:b6 ops s o=some true) (hd:dc nt o.dst=true) (hq':ha E (ev s) an.id o.op=some nw) (hp:nw.pre) (hm:NM s an.id) (hn:s.o an.id=none)
  (hW:an.W=[an.id]) (hN:an.N=[an.id]) (hM:nw.val.ids++nw.ob.ids=an.M):Ai P E nt ops o an s (some nw.val) [(an.id,some nw.ob)]
 |store (u:Bj) (hw:b6 ops s o=some true) (hd:dc nt o.dst=true) (hq':hs E s.o (ev s) o.op=some u) (hp:u.pre) (hW:an.W=[u.id]) (hM:∀k∈u.ob.ids,k∈an.M):Ai P E nt ops o an s none [(u.id,some u.ob)]
 | app (u:Bl) (hw:b6 ops s o=some true) (hd:dc nt o.dst=true) (hq':Ei E s.o (ev s) an.id an.wb o.op=some u) (hp:u.pre) (hn:u.new=true->NM s an.id/\s.o an.id=none)
  (hW:an.W=[u.id]) (hN:u.new=true->an.N=[an.id]) (hM:u.val.ids++u.ob.ids=an.M):Ai P E nt ops o an s (some u.val) [(u.id,some u.ob)]
 | call (cl:Call) (f:FuncId) (fst caps args:List PC) (p:Prop) (vs:List PC) (b:Bool) (hw:b6 ops s o=some true) (hd:dc nt o.dst=true) (ho:o.op=.call cl) (hc:callee (ev s) cl=some (f,fst,caps)) (hf:(goodFn P f/\a6 P f args an.res)\/wZ P f args an.res)
  (hv:lq s.o (ev s) cl.args.toList=some (p,vs,b)) (hp:p) (hco:Sg (fst++(vs++caps)) args) (hpure:True) (hb:(!b||an.res.flat)=true) (hM:an.M=[]):Ai P E nt ops o an s (some an.res.toH) []
 | conv (sr ds:TypeId) (x:Operand) (b:ByteArray) (hw:b6 ops s o=some true) (hd:dc nt o.dst=true) (ho:o.op=.convert sr ds x) (Xd:DA E (ev s) sr ds x=some b) (hp:b.size<=maxLen) (hM:an.M=[]) :
  Ai P E nt ops o an s (some (.v (.one (.p (.sl b.size 1 false (xC b)))))) []
 | fcall (cl:Call) (f:FuncId) (caps:List HC) (args hcs:List HC) (o1 o2:List (Nat×a8)) (res:HR) (fx:List Nat) (hw:b6 ops s o=some true) (hd:dc nt o.dst=true) (ho:o.op=.call cl) (hc:wv (ev s) cl=some (f,caps)) (hf:goodFn P f)
  (hv:tg (ev s) cl.args.toList=some hcs) (hco:vz (hcs++caps) args) (hfun:dn P f args o1 res o2 fx) (hsub:∀id ob,lk o1 id=some ob->∃ob',s.o id=some ob'/\Ic ob' ob)
  (hnew:∀id∈dx o2,id∉dx o1->s.o id=none) (hnm:∀id∈dx o2,id∉fx\/id∉dx o1->Yl s (dx o1++dx o2) id) (hcl:∀id ob,lk o2 id=some ob->∀k,ob.men k->k∈dx o2) (hclr:∀k,res.men k->k∈dx o2)
  (hW:an.W=dx o1++dx o2) (hN:∀id∈dx o2,id∉fx\/id∉dx o1->id∈an.N) (hM:an.M=res.ids++Bt o2):Ai P E nt ops o an s (some res) (Rm o1 o2)
def AH:∀(l:List PV),jp (l.map .p)=[]
 | []=>rfl
 |_::r=>by simp[jp,HV.ids,AH r]
def rI:∀(l:List PC),Mt (l.map PC.toH)=[]
 | []=>rfl
 | .one _::r=>by simp[Mt,HC.ids,PC.toH,HV.ids,rI r]
 | .agg l::r=>by simp[Mt,HC.ids,PC.toH,AH l,rI r]
theorem PR.ids_toH (x:PR):x.toH.ids=[]:=by
 cases x with
 |v x=>cases x<;>simp[PR.toH,HR.ids,PC.toH,HC.ids,HV.ids,AH]
 |tup l=>simp[PR.toH,HR.ids,rI]
def S.after(s:S)(d:Option Tmp)(x:Option HR)(wr:Wr):S:=(s.setW wr).putD d x
def rf(ro:Option Nat):Fence:={ fn:=λ_=>True,depth:=none,alive:=false,round:=ro }
section
variable {P:Program}{ro:Option Nat}
def awg{n:Nat}{f:FuncId}{args:Array Value}{w:World}{R:Ending->World->Prop}(h:Calls P f args w R):CallsIn (rf ro) n P f args w R:=(callsIn_wide (n:=n)).2 h
def ayp {n:Nat} {row:String} {args:Array Value} {w:World} {R:Value->World->Prop} (h:Rows P row args w R):RowsIn (rf ro) n P row args w R:=λc cs _=>by
 obtain⟨v,w',r,s⟩:=h c cs;exact⟨v,w',r,stepsIn_wide.2 s⟩
def JL{n:Nat}{o:Oper}{a:Act}{w:World}{K:Act->World->Prop}{Q:Exit->Act->World->Prop}(hnd:∀c,o.op≠.defer c)(h:o.wp P a w K Q):o.wpIn (rf ro) n P a w K Q:=by
 refine⟨λ_ _=>trivial, ?_⟩;rw[Oper.semAt_eq _ _ _ hnd];unfold Oper.wp at h;generalize (execOp a.eval o).run P w=r at *
 cases r with
 | ok x w' =>
  cases x<;>simp only[Oper.upon,Oper.uponIn]at h ⊢ <;>
   first
    |exact h
    |exact⟨(λhh=>Ea hh (by simp[rf])),awg h⟩
    |exact⟨(λhh=>Ea hh (by simp[rf])),ayp h⟩
    |exact h.elim
 |halt x w'=>cases x<;>simp only[Oper.upon,Oper.uponIn]at h ⊢<;>first|exact h|exact h.elim
def NG (P:Program) (ops:Array Oper) (Q:Exit->Act->World->Prop) (i:Nat) (K:Act->World->Prop) (a:Act) (w:World):Prop :=
 match ops[i]? with
 |none=>K a w
 |some o=>if Region.wanted o (yielded ops a.tmps)then o.wp P a w K Q else K (a.put o.dst undef) w
theorem Ai.nd {E:Xc} {nt:Nat} {ops:Array Oper} {o:Oper} {an:Tp} {s:S} {x:Option HR} {wr:Wr} (he:Ai P E nt ops o an s x wr):b6 ops s o=some false\/∀c,o.op≠.defer c:=by
 cases he with
 |skip hw hd=>exact .inl hw
 |cut out id hw hd hq' hp hW=>exact .inr λc hc=>by rw[hc]at hq';cases hq'
 |quiet out hw hd hq' hp hM=>exact .inr λc hc=>by rw[hc]at hq';cases hq'
 |make nw hw hd hq' hp hm hn hW hN hM=>exact .inr λc hc=>by rw[hc]at hq';cases hq'
 |store u hw hd hq' hp hW hM=>exact .inr λc hc=>by rw[hc]at hq';cases hq'
 |app u hw hd hq' hp hn hW hN hM=>exact .inr λc hc=>by rw[hc]at hq';cases hq'
 |call cl f fst caps args p vs b hw hd ho hc hf hv hp hco hpure hb hM=>exact .inr λc hc=>by rw[hc]at ho;cases ho
 |conv sr ds x b hw hd ho Xd hp hM=>exact .inr λc hc=>by rw[hc]at ho;cases ho
 |fcall cl f caps args hcs o1 o2 res fx hw hd ho hc hf hv hco hfun hsub hnew hnm hcl hclr hW hN hM=>exact .inr λc hc=>by rw[hc]at ho;cases ho
end
section
variable {P:Program}{E:Xc}{w0:World}{m0:Wm}{nt:Nat}{s:S}{a:Act}{w:World}{ops:Array Oper}{o:Oper}{an:Tp}
def ij (h:dc nt o.dst=true):∀k,o.dst=some k->k<nt:=by
 intro k hk;rw[hk]at h;exact Ga h
theorem fl {c:Pc} (h:ah w0 nt c s a w) {b:Bool} (hw:b6 ops s o=some b):Region.wanted o (yielded ops a.tmps)=b:=by
 unfold b6 at hw;unfold Region.wanted;split at hw
 .grind
 rename_i j want hg;rw[hg];split at hw<;>try(cases hw;done)
 rename_i d hd;split at hw<;>try(cases hw;done)
 rotate_left
 .rename_i hb
  simp only[Bb]at hw;obtain⟨us,e1,e2⟩:=h.tmps d _ hb
  have e3:us=[]:=by cases us with|nil=>rfl|cons=>exact e2.elim
  subst e3;show(yielded ops a.tmps j==some want)=b
  have hy:yielded ops a.tmps j=none:=by
   unfold yielded;rw[hd];simp only[Option.bind_some]
   rcases Io d a.tmps.size with h'|h'
   .simp_all
   grind
  grind
 rename_i bb hb;simp only[Bb]at hw;obtain⟨e1,_⟩:=h.tmps d _ hb
 have hsz:d<a.tmps.size:=by
  rcases Io d a.tmps.size with h'|h'
  .exact h'
  have:a.tmps.getD d undef=undef:=by simp[Rs h']
  rw[this]at e1;cases e1
 have:a.tmps[d]? = some (.bool bb):=by
  simp_all
 have hy:yielded ops a.tmps j=some bb:=by
  unfold yielded
  grind
 simp_all
def cb.append {c:Pc} {o:av}:∀{xs ys:List HC} {us vs:List Value},cb c o xs us->cb c o ys vs->cb c o (xs++ys) (us++vs)
 | [],_,[],_,_,h=>h
 |_::_,_,_::_,_,h,k=>⟨h.1,cb.append h.2 k⟩
 | [],_,_::_,_,h,_=>h.elim
 |_::_,_,[],_,h,_=>h.elim
def dX {c:Pc} {o:av} {caps:Nat->HV}:∀(n i:Nat) (cs:List Value),cs.length=i+n->(∀j,j<i+n->∃x,cs[j]? = some x/\bc c o (caps j) x)->cb c o (jI caps n i) (cs.drop i)
 | 0,i,cs,hl,_=>by
  rw[Hv Za];trivial
 | n+1,i,cs,hl,h=>by
  rw[Ss Za];obtain⟨x,hx,hr⟩:=h i Za;rw[Hc Za]at hx;simp only[Bb]at hx;subst hx;exact⟨hr,dX n (i+1) cs Za λj hj=>h j Za⟩
def oW {c:Pc} (h:ah w0 nt c s a w):∀{l:List Operand} {hcs:List HC},tg (ev s) l=some hcs->cb c s.o hcs (l.map a.eval)
 | [],hcs,hv=>by
  simp only[tg,Bb]at hv;subst hv;trivial
 | x::r,hcs,hv=>by
  simp only[tg]at hv;split at hv<;>try(cases hv;done)
  rename_i cc l e1 e2;simp only[Bb]at hv;subst hv;exact⟨ae h e1,oW h e2⟩
section
variable {K:Act->World->Prop}{Q:Exit->Act->World->Prop}
theorem avm(hE:dl P E){x:Option HR}{wr:Wr}(he:Ai P E nt ops o an s x wr)(h:Sf w0 m0 nt s a w){i:Nat}(hi:ops[i]? = some o)(hK:∀a' w',Sf w0 m0 nt (s.after o.dst x wr) a' w'->K a' w'):NG P ops Q i K a w:=by
 obtain⟨c,hold,h⟩:=h;unfold NG;simp only[hi]
 cases he with
 | cut out id hw hd hq' hp hW =>
  rw[Ba (fl h hw)];obtain⟨v,c',h1,hold',h2,h3⟩:=arh hE h hq' hp;unfold Oper.wp;rw[h1];refine hK _ _ ⟨c',hold'.trans hold, ?_⟩
  have e:s.after o.dst (some out.val) [(id,none)]=(s.setO id none).putD o.dst (some out.val):=by
   unfold S.after;rw[S.setW_none]
  rw[e]
  exact h2.putD o.dst (ij hd) (some out.val) v (λy hy=>by
   simp only[Bb]at hy;subst hy
   exact h3)
 | skip hw hd =>
  rw[Ca (by rw[fl h hw];simp)];exact hK _ _ ⟨c,hold,h.putD o.dst (ij hd) (some (.tup [])) undef (λy hy=>by cases hy;exact⟨[],rfl,Aa⟩)⟩
 | quiet out hw hd hq' hp hM =>
  rw[Ba (fl h hw)];obtain⟨v,h1,h2⟩:=b4f hE h hq' hp;unfold Oper.wp;rw[h1]
  exact hK _ _ ⟨c,hold,h.putD o.dst (ij hd) (some out.val) v (λy hy=>by
   simp only[Bb]at hy;subst hy
   exact h2)⟩
 | make nw hw hd hq' hp hm hn hW hN hM =>
  rw[Ba (fl h hw)];obtain⟨v,w',c',h1,ho',h2,h3⟩:=b3t hE h hq' hp hm hn;have hold':=ho'.trans hold;unfold Oper.wp;rw[h1]
  exact hK _ _ ⟨c',hold',(by unfold S.after;rw[S.setW_one];exact h2.putD o.dst (ij hd) (some nw.val) v (λy hy=>by
   simp only[Bb]at hy;subst hy
   exact h3))⟩
 | store u hw hd hq' hp hW hM =>
  rw[Ba (fl h hw)];obtain⟨w',c',h1,ho',h2⟩:=b68 hE h hq' hp;have hold':=ho'.trans hold;unfold Oper.wp;rw[h1];exact hK _ _ ⟨c',hold',(by unfold S.after;rw[S.setW_one];exact h2.putD o.dst (ij hd) none undef (λy hy=>by cases hy))⟩
 | app u hw hd hq' hp hn hW hN hM =>
  rw[Ba (fl h hw)];obtain⟨v,w',c',h1,⟨ho',h2⟩,h3⟩:=b2e hE h hq' hp hn;have hold':=ho'.trans hold;unfold Oper.wp;rw[h1]
  exact hK _ _ ⟨c',hold',(by unfold S.after;rw[S.setW_one];exact h2.putD o.dst (ij hd) (some u.val) v (λy hy=>by
   simp only[Bb]at hy;subst hy
   exact h3))⟩
 | conv sr ds x b hw hd ho Xd hp hM =>
  rw[Ba (fl h hw)];unfold DA at Xd;split at Xd<;>try(cases Xd;done)
  rename_i ti td b' e1 e2 e3;split at Xd<;>try(cases Xd;done)
  rename_i el e4 e5;split at Xd<;>try(cases Xd;done)
  rename_i ei e6;split at Xd<;>try(cases Xd;done)
  rename_i e7;simp only[Bb]at Xd;subst Xd;obtain⟨_,d1,_,p1,q1,_⟩:=az (hE sr ti e1);obtain⟨_,d2,_,p2,q2,_⟩:=az (hE ds td e2);obtain⟨_,d3,_,p3,q3,_⟩:=az (hE el ei e6);have r1:d1=.string:=by rw[e4]at q1;cases d1<;>simp[j1]at q1 ⊢
  have r2:d2=.slice el:=ez (q2.symm.trans e5)
  have r3:d3=.int .u8:=by
   rw[e7]at q3;cases d3<;>simp[j1]at q3 ⊢;exact q3.symm
  subst r1 r2 r3;have hev:a.eval x=.string b':=(ae h e3).1;have hrun:=run_bytes_of_string (P:=P) w sr ds el b' p1 p2 p3
  have hex:(execOp a.eval o).run P w=.ok (.value (.slice (some ⟨w.heap.size,0,none⟩) b'.size (grownCap w b'.size 0 el)))
   (w.drew.alloc (.cells (bytesRow b' (grownCap w b'.size 0 el)) el ((bytesRow b' (grownCap w b'.size 0 el)).size,(bytesRow b' (grownCap w b'.size 0 el)).size+1))):=by
   unfold execOp;simp_all
  unfold Oper.wp;rw[hex];generalize hob:Obj.cells (bytesRow b' (grownCap w b'.size 0 el)) el ((bytesRow b' (grownCap w b'.size 0 el)).size,(bytesRow b' (grownCap w b'.size 0 el)).size+1)=ob
  have h':=h.later (w.drew.alloc ob) ⟨rfl,rfl,rfl,by simp,λk hk=>AT w _ hk,Hm _⟩ (λk=>if k=w.heap.size then some ob else c.imm k) (λk hk=>Ca Za) (λk ob' hk=>by
   by_cases hkk:k=w.heap.size
   .rw [Ba hkk]at hk
    rw[hkk,<- Option.some.inj hk];exact heap_alloc_new w.drew _
   rw[Ca hkk]at hk;have hw':=h.imm k ob' hk
   exact(AT w _ (Le.1 hw').1).trans hw')
  refine hK _ _ ⟨_,by exact hold,h'.putD o.dst (ij hd) (some (.v (.one (.p (.sl b'.size 1 false (xC b')))))) _ (λy hy=>?_)⟩;simp only[Bb]at hy;subst hy;refine⟨some ⟨w.heap.size,0,none⟩,_,rfl,grownCap_ge w _ _ _,grownCap_le_maxLen w _ _ _ hp,(λhf=>by cases hf),λ_=>⟨w.heap.size,0,rfl,λi j hi hj=>?_⟩⟩;obtain rfl:j=0:=by omega
  refine⟨.int .u8 (c5 b' i), ?_,rfl,rfl⟩;unfold gz;dsimp only;rw[Ba rfl,<- hob];dsimp only;unfold bytesRow c5;have hsz:b'.data.size=b'.size:=rfl;rw[Array.getElem?_append_left Uh]
  grind
 | call cl f fst caps args p vs b hw hd ho hc hf hv hp hco hpure hb hM =>
  rw[Ba (fl h hw)];obtain⟨q1,q2⟩:=fX h (b6v h) hv hp
  obtain ⟨fo,us,cs,hcal,e1,hfst,hcapr⟩:∃(fo:Operand) (us cs:List Value),cl.callee=.value fo/\a.eval fo=.func (.func f) us.toArray cs.toArray/\(∀m:Dc,Dc.le c.imm m->ck m fst us)/\∀m:Dc,Dc.le c.imm m->ck m caps cs:=by
   unfold callee at hc;split at hc<;>try(cases hc;done)
   rename_i fo hcal;split at hc<;>try(cases hc;done)
   .rename_i g k capf hfo
    simp only[Bb,Tc]at hc;obtain⟨rfl,rfl,rfl⟩:=hc;obtain⟨cs,e1,hcl,hcr⟩:=ae h hfo;refine⟨fo,[],cs,hcal,e1,λ_ _=>trivial,λm hm=>?_⟩
    have:=RL (m:=m) (caps:=capf) k 0 cs Za (λj hj=>by
     obtain⟨x,hx,hr⟩:=hcr j Za
     exact⟨x,hx,aq.mono hm hr⟩)
    grind
   rename_i g k fr hfo;simp only[Bb,Tc]at hc;obtain⟨rfl,rfl,rfl⟩:=hc;obtain⟨cs,e1,hcl,hcr⟩:=ae h hfo;refine⟨fo,[.agg cs.toArray],[],hcal,e1,λm hm=>⟨⟨cs,rfl, ?_⟩,Aa⟩,λ_ _=>trivial⟩
   have:=eV (m:=m) (f:=fr) k 0 cs Za (λj hj=>by
    obtain⟨x,hx,hr⟩:=hcr j Za
    exact⟨x,hx,aq.mono hm hr⟩)
   grind
  rcases hf with⟨⟨fn,hfn,hname,hbody⟩,hpure⟩|hx
  ·
   have hrun:(execOp a.eval o).run P w=.ok (.enter f (us++((cl.args.toList.map a.eval)++cs)).toArray) w:=by
    unfold execOp;simp only[ho,resolve,hcal,Nf,e1,Deferred.ofValue,Mh,Rf,invoke,callFunc,run_program,hfn,hname,hbody];simp
   unfold Oper.wp;rw[hrun];rw[Oper.upon_enter]
   cases hbb:b with
   | false =>
    have hargs:ck c.imm args (us++(cl.args.toList.map a.eval++cs)):=Sg.sound hco (ck.append (hfst _ (Dc.le.refl _)) (ck.append (q2 hbb) (hcapr _ (Dc.le.refl _))));refine(hpure w c.imm _ c.tab h.imm hargs).mono ?_;rintro e w' ⟨v,imm',rfl,hr,h1,h2,h3⟩;have h':=h.later w' h3 imm' h1 h2
    exact hK _ _ ⟨_,by exact hold,h'.putD o.dst (ij hd) (some an.res.toH) v (λy hy=>by
     simp only[Bb]at hy;subst hy
     exact ap.of_P hr)⟩
   | true =>
    have hflat:an.res.flat=true:=by rw[hbb]at hb;simpa using hb
    have hargs:ck (fg w) args (us++(cl.args.toList.map a.eval++cs)):=Sg.sound hco (ck.append (hfst _ (rz h)) (ck.append q1 (hcapr _ (rz h))));refine(hpure w (fg w) _ (c.tab.mono (rz h)) (λ_ _ hh=>hh) hargs).mono ?_;rintro e w' ⟨v,imm',rfl,hr,h1,h2,h3⟩
    have h':=h.later w' h3 (λb=>if b<w.heap.size then c.imm b else none) (λb hb=>by simp[hb]) (λb ob hbo=>by
     by_cases hlt:b<w.heap.size
     .simp only [hlt,Ma]at hbo
      rw[h3.block b hlt];exact h.imm b ob hbo
     simp[hlt]at hbo)
    exact hK _ _ ⟨_,by exact hold,h'.putD o.dst (ij hd) (some an.res.toH) v (λy hy=>by
     simp only[Bb]at hy;subst hy
     exact ap.of_P (qj.flat hflat hr))⟩
  have hstep:∀v,(callFunc f (us++((cl.args.toList.map a.eval)++cs)).toArray).run P w=.ok (.value v) w->(execOp a.eval o).run P w=.ok (.value v) w:=λv hv2=>by
   rw[<- hv2];unfold execOp;simp only[ho,resolve,hcal,Nf,e1,Deferred.ofValue,Mh,Rf,invoke];simp;congr 2;apply Array.ext';simp
  cases hbb:b with
  | false =>
   have hargs:ck c.imm args (us++(cl.args.toList.map a.eval++cs)):=Sg.sound hco (ck.append (hfst _ (Dc.le.refl _)) (ck.append (q2 hbb) (hcapr _ (Dc.le.refl _))));obtain⟨v,hv2,hr⟩:=hx c.imm _ w hargs;unfold Oper.wp;rw[hstep v hv2]
   exact hK _ _ ⟨_,by exact hold,h.putD o.dst (ij hd) (some an.res.toH) v (λy hy=>by
    simp only[Bb]at hy;subst hy
    exact ap.of_P hr)⟩
  | true =>
   have hflat:an.res.flat=true:=by rw[hbb]at hb;simpa using hb
   have hargs:ck (fg w) args (us++(cl.args.toList.map a.eval++cs)):=Sg.sound hco (ck.append (hfst _ (rz h)) (ck.append q1 (hcapr _ (rz h))));obtain⟨v,hv2,hr⟩:=hx (fg w) _ w hargs;unfold Oper.wp;rw[hstep v hv2]
   exact hK _ _ ⟨_,by exact hold,h.putD o.dst (ij hd) (some an.res.toH) v (λy hy=>by
    simp only[Bb]at hy;subst hy
    exact ap.of_P (qj.flat hflat hr))⟩
 | fcall cl f caps args hcs o1 o2 res fx hw hd ho hc hf hv hco hfun hsub hnew hnm hcl hclr hW hN hM =>
  rw[Ba (fl h hw)];unfold wv at hc;split at hc<;>try(cases hc;done)
  rename_i fo hcal;obtain⟨fn,hfn,hname,hbody⟩:=hf
  obtain ⟨cs,e1,hcapr⟩:∃cs:List Value,a.eval fo=.func (.func f) #[] cs.toArray/\cb c s.o caps cs:=by
   split at hc<;>try(cases hc;done)
   .rename_i g k capf hfo
    simp only[Bb,Tc]at hc;obtain⟨rfl,rfl⟩:=hc;obtain⟨cs,e1,hcl',hcr⟩:=ae h hfo;refine⟨cs,e1, ?_⟩
    have:=RL (m:=c.imm) (caps:=capf) k 0 cs Za (λj hj=>by
     obtain⟨x,hx,hr⟩:=hcr j Za
     exact⟨x,hx,hr⟩)
    exact cb.of_P (by simpa using this)
   rename_i g k capf hfo;simp only[Bb,Tc]at hc;obtain⟨rfl,rfl⟩:=hc;obtain⟨cs,e1,hcl',hcr⟩:=ae h hfo;refine⟨cs,e1, ?_⟩;have:=dX (c:=c) (o:=s.o) (caps:=capf) k 0 cs Za (λj hj=>hcr j Za);simp_all
  have hrun:(execOp a.eval o).run P w=.ok (.enter f ((cl.args.toList.map a.eval)++cs).toArray) w:=by
   unfold execOp;simp only[ho,resolve,hcal,Nf,e1,Deferred.ofValue,Mh,Rf,invoke,callFunc,run_program,hfn,hname,hbody];simp
  have hargs:cb c s.o args (cl.args.toList.map a.eval++cs):=cb.co hco (cb.append (oW h hv) hcapr);obtain⟨hmem,hto⟩:=h.lend hsub;unfold Oper.wp;rw[hrun];rw[Oper.upon_enter];refine(hfun w c _ hmem (hto _ _ hargs)).mono ?_;rintro e w' ⟨v,c',rfl,hr,hm',hbel,hfr,hbk,Eg⟩;obtain⟨c'',q1,_,q2,q3⟩:=h.fcall hsub (λid h2 h1=>hnew id h2 h1) (λid h2 h1=>hnm id h2 h1) hcl hm' hbel hfr hbk Eg
  exact hK _ _ ⟨c'',q1.trans hold,q2.putD o.dst (ij hd) (some res) v (λy hy=>by
   simp only[Bb]at hy;subst hy
   exact q3 _ _ hr hclr)⟩
def NK(hE:dl P E){ro:Option Nat}{n:Nat}{x:Option HR}{wr:Wr}(he:Ai P E nt ops o an s x wr)(h:Sf w0 m0 nt s a w){i:Nat}(hi:ops[i]? = some o)(hK:∀a' w',Sf w0 m0 nt (s.after o.dst x wr) a' w'->K a' w'):wpOpIn (rf ro) n P ops Q i K a w:=by
 have h1:=avm hE he h hi (Q:=Q) hK;unfold NG at h1;unfold wpOpIn;simp only[hi]at h1 ⊢;obtain⟨c,hold,hr⟩:=h
 rcases he.nd with hn|hn
 .have hw:=fl hr hn
  rw[Ca (by rw[hw];simp)]at h1 ⊢;exact⟨λ_ _=>trivial,h1⟩
 split
 .rename_i hw
  rw[Ba hw]at h1;exact JL hn h1
 rename_i hw;rw[Ca hw]at h1;exact⟨λ_ _=>trivial,h1⟩
end
end
end
section
open Go.RowKit
section
variable {E:Xc}{ex:Bool}{o o':av}{e e':Ev}
section
variable {x:Operand}
def fe {r:HR} (hx:e x=some r):∀{l:List Operand},x∈l->∀k∈r.ids,k∈dv e l
 | y::l,hm,k,hk=>by
  rcases Jd.1 hm with rfl|hm
  .simp only[dv,hx];exact Ig _ hk
  simp only[dv];exact Bh _ (fe hx hm k hk)
def sx:∀{l:List Operand},(∀x∈l,e' x=e x)->dv e' l=dv e l
 | [],_=>rfl
 | x::l,h=>by
  simp only[dv];rw[h x Ec,sx λy hy=>h y (by simp[hy])]
def Ah{p:Prop}(h:p:=by simp[HV.ids]):p:=h
variable {h:HV}
def rF (ho:∀k∈h.ids,o' k=o k):Sk o' h=Sk o h:=by
 cases h with
 |p x=>cases x<;>rfl
 |ref id n=>rfl
 |ptr id off=>simp only[Sk];rw[ho id Ah]
 |eptr id n i j=>simp only[Sk];rw[ho id Ah]
 |win id n i m=>rfl
 |clo g k caps=>rfl
 |row id i k=>rfl
 |rptr id i k r j=>simp only[Sk];rw[ho id Ah]
 |pin id n ad cap=>rfl
def ML {places:List (Nat×Nat)}:∀{parts:List (Nat×Operand)} {cells:List HV},(∀x∈parts.map (·.2),e' x=e x)->iw e' places cells parts=iw e places cells parts
 | [],_,_=>rfl
 | (i,x)::r,cells,h=>by
  have hx:=h x Ec;have ih:∀cells,iw e' places cells r=iw e places cells r:=λcells=>ML λy hy=>h y (by simp at hy ⊢;exact .inr hy);simp only[iw,hx,ih]
def tW:∀{l:List Operand},(∀x∈l,e' x=e x)->Dr e' l=Dr e l
 | [],_=>rfl
 | x::l,h=>by
  simp only[Dr];rw[h x Ec,tW λy hy=>h y (by simp[hy])]
def xW:∀{l:List Operand},(∀x∈l,e' x=e x)->Mr e' l=Mr e l
 | [],_=>rfl
 | x::l,h=>by
  simp only[Mr];rw[h x Ec,xW λy hy=>h y (by simp[hy])]
def o6 {x:Option Operand} (h:∀y∈x.toList,e' y=e y):jk e' x=jk e x:=by
 cases x with
 |none=>rfl
 |some y=>simp only[jk];rw[h y Ec]
def afn{b:Builtin}{args:List Operand}{tys:List TypeId}(h:∀x∈args,e' x=e x):ur E e' b args tys=ur E e b args tys:=by
 unfold ur;split
 .rename_i x t r
  rw[h x Ec]
 .rename_i x y
  rw[h x Ec,h y Ec]
 .rename_i x y
  rw[h x Ec,h y Ec]
 rfl
def awj (ho:∀k∈h.ids,o' k=o k):Qq o' h=Qq o h:=by
 cases h with
 |ref id n=>simp only[Qq];rw[ho id Ah]
 |win id n i m=>simp only[Qq];rw[ho id Ah]
 |row id i k=>simp only[Qq];rw[ho id Ah]
 |_=>rfl
variable {n:Nat}
def aws {i:Int} (ho:∀k∈h.ids,o' k=o k):Et o' n i h=Et o n i h:=by
 cases h with
 |ref id n=>simp only[Et];rw[ho id Ah]
 |win id n i m=>simp only[Et];rw[ho id Ah]
 |row id i k=>simp only[Et];rw[ho id Ah]
 |p x=>cases x<;>rfl
 |_=>rfl
def am5 {x y z:Option Int} (ho:∀k∈h.ids,o' k=o k):Yt o' n x y z h=Yt o n x y z h:=by
 cases h with
 |ref id n=>simp only[Yt];rw[ho id Ah]
 |win id n i m=>simp only[Yt];rw[ho id Ah]
 |_=>rfl
def dV{l:List Operand}{F:av->HV->Option Ge}{α:Type}{d:α}{G:Option Ge->α}(hF:∀h:HV,(∀k∈h.ids,o' k=o k)->F o' h=F o h)(hl:x∈l)(ho:∀k∈dv e l,o' k=o k):
 (match e x with|some (.v (.one h))=>G (F o' h)|_=>d)=(match e x with|some (.v (.one h))=>G (F o h)|_=>d):=by
 cases hex:e x with
 |none=>rfl
 | some r =>
  cases r with
  |tup l=>rfl
  | v cc =>
   cases cc with
   |agg l=>rfl
   | one h =>
    dsimp only;rw[hF h λk hk=>ho k (fe hex hl k hk)]
def ahd{b:Builtin}{args:List Operand}{tys:List TypeId}(h:∀x∈args,e' x=e x)(ho:∀k∈dv e args,o' k=o k):wk E o' e' b args tys=wk E o e b args tys:=by
 unfold wk;split
 .rename_i x t r
  rw[h x Ec]
  cases E t with
  |none=>rfl
  | some ti =>
   dsimp only;cases ti.k<;>try rfl
   exact dV (G:=id) (F:=Qq) (λh hh=>awj hh) Ec ho
 rfl
def ar8(ho:∀k∈dv e [x],o' k=o k):ta o' e x=ta o e x:=by
 unfold ta
 cases hex:e x with
 |none=>rfl
 | some r =>
  cases r with
  |tup l=>rfl
  | v cc =>
   cases cc with
   |agg l=>rfl
   | one h =>
    have:=rF (o:=o) (o':=o') (h:=h) (λk hk=>ho k (fe hex Ec k hk))
    cases h with
    |p x=>cases x<;>rfl
    |ref id n=>rfl
    |ptr id off=>dsimp only;rw[this]
    |eptr id n i j=>dsimp only;rw[this]
    |win id n i m=>rfl
    |clo g k caps=>rfl
    |row id i k=>rfl
    |rptr id i k r j=>dsimp only;rw[this]
    |pin id n ad cap=>rfl
variable {t:TypeId}
def alq(ho:∀k∈dv e [x],o' k=o k):nx E o' e t x=nx E o e t x:=by
 unfold nx
 cases E t with
 |none=>rfl
 | some i =>
  dsimp only
  cases hex:e x with
  |none=>rfl
  | some r =>
   cases r with
   |tup l=>rfl
   | v cc =>
    cases cc with
    |agg l=>rfl
    | one h =>
     dsimp only;rw[rF (o:=o) (o':=o') (h:=h) (λk hk=>ho k (fe hex Ec k hk))]
def ab4{k:Nat}(ho:∀k∈dv e [x],o' k=o k):gl E o' e t x k=gl E o e t x k:=by
 unfold gl
 cases E t with
 |none=>rfl
 | some i =>
  dsimp only;cases i.k<;>try rfl
  rename_i fs;dsimp only
  cases fs[k]? with
  |none=>rfl
  | some q =>
   obtain⟨off,ft,bl⟩:=q;dsimp only
   cases E ft with
   |none=>rfl
   | some fi =>
    dsimp only
    cases hex:e x with
    |none=>rfl
    | some r =>
     cases r with
     |tup l=>rfl
     | v cc =>
      cases cc with
      |agg l=>rfl
      | one h =>
       dsimp only;rw[rF (o:=o) (o':=o') (h:=h) (λk hk=>ho k (fe hex Ec k hk))]
variable {el:TypeId}{i:Operand}
def ac6{len:Nat}(ho:∀k∈dv e [x],o' k=o k):oo E o' e len el x i=oo E o e len el x i:=by
 unfold oo
 cases E el with
 |none=>rfl
 | some ei =>
  dsimp only
  cases hex:e x with
  |none=>rfl
  | some r =>
   cases r with
   |tup l=>rfl
   | v cc =>
    cases cc with
    |agg l=>rfl
    | one h =>
     dsimp only;rw[rF (o:=o) (o':=o') (h:=h) (λk hk=>ho k (fe hex Ec k hk))]
def ab6(ho:∀k∈dv e [x],o' k=o k):i7 E o' e t x i=i7 E o e t x i:=by
 unfold i7
 cases E t with
 |none=>rfl
 | some ii =>
  dsimp only;cases ii.k<;>try rfl
  case array len el=>exact ac6 ho
  rename_i el;dsimp only
  cases E el with
  |none=>rfl
  | some ei =>
   dsimp only
   cases hex:e x with
   |none=>rfl
   | some r =>
    cases r with
    |tup l=>rfl
    | v cc =>
     cases cc with
     |agg l=>rfl
     | one h =>
      dsimp only;have:=λiv=>aws (o:=o) (o':=o') (h:=h) (n:=ei.size) (i:=iv) (λk hk=>ho k (fe hex Ec k hk));simp only[this]
def as1 {kk:KK} {m:MK} {z:Value} {cm:Bool} (ho:∀k∈h.ids,o' k=o k):CA o' kk m z cm h=CA o kk m z cm h:=by
 cases h with
 |ref id n=>simp only[CA];rw[ho id Ah]
 |p y=>cases y<;>rfl
 |_=>rfl
def aio{cm:Bool}(ho:∀k∈dv e [x],o' k=o k):li E o' e t x i cm=li E o e t x i cm:=by
 unfold li
 cases E t with
 |none=>rfl
 | some ii =>
  dsimp only;cases ii.k<;>try rfl
  rename_i kt et;dsimp only
  cases lD E kt et with
  |none=>rfl
  | some q =>
   obtain⟨kk,z⟩:=q;dsimp only
   cases hex:e x with
   |none=>rfl
   | some r =>
    cases r with
    |tup l=>rfl
    | v cc =>
     cases cc with
     |agg l=>rfl
     | one h =>
      dsimp only;have:=λm=>as1 (o:=o) (o':=o') (h:=h) (kk:=kk) (m:=m) (z:=z) (cm:=cm) (λk hk=>ho k (fe hex Ec k hk));simp only[this]
def akv {op:BinOp} (ho:∀k∈h.ids,o' k=o k):rB o' op h=rB o op h:=by
 cases h with
 |ptr id n=>simp only[rB];rw[ho id Ah]
 | p x=>cases x with
  |raw v=>cases v<;>rfl
  |_=>rfl
 |_=>rfl
def agw{op:BinOp}{y:Operand}(ho:∀k∈dv e [x],o' k=o k):lp E o' e op t x y=lp E o e op t x y:=by
 unfold lp;split<;>try rfl
 cases E t with
 |none=>rfl
 | some ii =>
  dsimp only;cases ii.k<;>try rfl
  dsimp only
  cases hex:e x with
  |none=>rfl
  | some r =>
   cases r with
   |tup l=>rfl
   | v cc =>
    cases cc with
    |agg l=>rfl
    |one h=>exact akv (λk hk=>ho k (fe hex Ec k hk))
def Kf{p:Prop}(h:p:=by simp[Op.operands]):p:=h
variable {op:Op}
def b5u(hx:∀x∈op.operands,e' x=e x)(ho:∀k∈dv e op.operands.toList,o' k=o k):hq E ex o' e' op=hq E ex o e op:=by
 cases op<;>try rfl
 case move x=>show Option.map _ (e' x)=Option.map _ (e x);rw[hx x Kf]
 case assign x=>show Option.map _ (e' x)=Option.map _ (e x);rw[hx x Kf]
 case pick c x y =>
  show Px e' c x y=Px e c x y;unfold Px;rw[hx c Kf,hx x Kf,hx y Kf]
 case nilCheck x =>
  show ta o' e' x=ta o e x;have h1:ta o' e' x=ta o' e x:=by unfold ta;rw[hx x Kf]
  rw[h1];exact ar8 (by simpa [Op.operands]using ho)
 case load t x =>
  show nx E o' e' t x=nx E o e t x;have h1:nx E o' e' t x=nx E o' e t x:=by unfold nx;rw[hx x Kf]
  rw[h1];exact alq (by simpa [Op.operands]using ho)
 case fieldAddr t x k =>
  show gl E o' e' t x k=gl E o e t x k;have h1:gl E o' e' t x k=gl E o' e t x k:=by unfold gl;rw[hx x Kf]
  rw[h1];exact ab4 (by simpa [Op.operands]using ho)
 case field t x k =>
  show Iy E e' t x k=Iy E e t x k;unfold Iy;rw[hx x Kf]
 case indexAddr t x i =>
  show i7 E o' e' t x i=i7 E o e t x i;have h1:i7 E o' e' t x i=i7 E o' e t x i:=by unfold i7 oo;rw[hx x Kf,hx i Kf]
  rw[h1];refine ab6 λk hk=>ho k ?_;simp only[dv,Op.operands,Mg]at hk ⊢;exact Ig _ hk
 case lookup t x i cm =>
  show li E o' e' t x i cm=li E o e t x i cm;have h1:li E o' e' t x i cm=li E o' e t x i cm:=by unfold li;rw[hx x Kf,hx i Kf]
  rw[h1];refine aio λk hk=>ho k ?_;simp only[dv,Op.operands,Mg]at hk ⊢;exact Ig _ hk
 case index t x i =>
  show Jy E e' t x i=Jy E e t x i;unfold Jy;rw[hx x Kf,hx i Kf]
 case binOp op t x y ty =>
  have h1:Sw E ex e' op t x y=Sw E ex e op t x y:=by
   unfold Sw;rw[hx x Kf,hx y Kf]
  have h2:ww E e' op t x y=ww E e op t x y:=by
   unfold ww;rw[hx x Kf]
  have h3:lp E o' e' op t x y=lp E o e op t x y:=by
   have h1:lp E o' e' op t x y=lp E o' e op t x y:=by unfold lp;rw[hx x Kf]
   rw[h1];refine agw λk hk=>ho k ?_;simp only[dv,Op.operands,Mg]at hk ⊢;exact Ig _ hk
  simp only[hq];rw[h1,h2,h3]
 case unOp op t x =>
  show Qv ex e' op x=Qv ex e op x;unfold Qv;rw[hx x Kf]
 case convert src dst x =>
  show Qx E ex e' src dst x=Qx E ex e src dst x;unfold Qx;rw[hx x Kf]
 case extract x i =>
  show ug e' x i=ug e x i;unfold ug;rw[hx x Kf]
 case slice t x lo hi mx =>
  have e0:=hx x Kf;have e1:=o6 (e:=e) (e':=e') (x:=lo) (λy hy=>hx y (by simp[Op.operands];simp at hy;simp[hy]));have e2:=o6 (e:=e) (e':=e') (x:=hi) (λy hy=>hx y (by simp[Op.operands];simp at hy;simp[hy]));have e3:=o6 (e:=e) (e':=e') (x:=mx) (λy hy=>hx y (by simp[Op.operands];simp at hy;simp[hy]))
  have h1:mh E e' t x lo hi mx=mh E e t x lo hi mx:=by
   unfold mh;rw[e0,e1,e2,e3]
  have h2:Gw E o' e' t x lo hi mx=Gw E o e t x lo hi mx:=by
   unfold Gw;rw[e0,e1,e2,e3]
   cases E t with
   |none=>rfl
   | some ti =>
    dsimp only;cases ti.k<;>try rfl
    rename_i el;dsimp only
    cases E el with
    |none=>rfl
    | some ei =>
     dsimp only
     cases jk e lo with
     |none=>rfl
     | some l =>
      cases jk e hi with
      |none=>rfl
      | some hh =>
       cases jk e mx with
       |none=>rfl
       | some m =>
        dsimp only;exact dV (G:=id) (F:=λo h=>Yt o ei.size l hh m h) (λh hh=>am5 hh) (l:=(Op.slice t x lo hi mx).operands.toList) Kf ho
  simp only[hq];rw[h1,h2]
 case makeFunc fn first caps =>
  show Lx e' fn first.toList caps.toList=Lx e fn first.toList caps.toList
  unfold Lx;rw[tW (l:=caps.toList) (λy hy=>hx y (by simp[Op.operands];simp at hy;exact .inr hy)),xW (l:=caps.toList) (λy hy=>hx y (by simp[Op.operands];simp at hy;exact .inr hy))];split
  .rfl
  .rename_i f x hf
   rw[hx x (by simp[Op.operands];left;rw[<- Array.mem_toList_iff,hf];simp)]
  rfl
 case build t parts =>
  show My E e' t parts.toList=My E e t parts.toList;have hf:∀places cells,iw e' places cells parts.toList=iw e places cells parts.toList:=λplaces cells=>ML λx hm=>hx x (by simpa [Op.operands]using hm);unfold My;simp only[hf]
 case call c =>
  simp only[hq]
  cases hc:c.callee with
  |value f=>rfl
  |invoke r m=>rfl
  | builtin b =>
   simp only[Op.operands,Call.operands,hc]at hx ho;have h1:∀x∈c.args.toList,e' x=e x:=λx hm=>hx x (by simpa using hm);have h2:∀k∈dv e c.args.toList,o' k=o k:=λk hk=>ho k (by simpa using hk);dsimp only;rw[afn h1,ahd h1 h2]
variable {id:Nat}
def b5t(hx:∀x∈op.operands,e' x=e x):ha E e' id op=ha E e id op:=by
 cases op<;>simp only[ha]<;>simp only[Op.operands]at hx
 case box t x=>rw[hx x Ec]
 case buildSlice t n parts =>
  have hf:∀sz cells,aE e' sz n parts.toList cells=aE e sz n parts.toList cells:=λsz cells=>by
   unfold aE;exact ML λx hm=>hx x (by simpa using hm)
  simp only[hf]
 case makeSlice t l c=>rw[hx l Ec,hx c Ec]
def ako{y:Operand}(ho:∀k∈dv e [x,y],o' k=o k):mf E o' e t x y=mf E o e t x y:=by
 unfold mf
 cases E t with
 |none=>rfl
 | some i =>
  cases hv:e y with
  |none=>rfl
  | some rv =>
   cases rv with
   |tup l=>rfl
   | v cv =>
    cases hex:e x with
    |none=>rfl
    | some r =>
     cases r with
     |tup l=>rfl
     | v cc =>
      cases cc with
      |agg l=>rfl
      | one h =>
       cases h with
       |p x=>cases x<;>rfl
       |ref id n=>rfl
       |ptr id off=>dsimp only;rw[ho id (fe hex Ec id (by simp[HR.ids,HC.ids,HV.ids]))]
       |eptr id n r j=>dsimp only;rw[ho id (fe hex Ec id (by simp[HR.ids,HC.ids,HV.ids]))]
       |win id n i m=>rfl
       |clo g k caps=>rfl
       |row id i k=>rfl
       |rptr id i k r j=>dsimp only;rw[ho id (fe hex Ec id (by simp[HR.ids,HC.ids,HV.ids]))]
       |pin id n ad cap=>rfl
def aqm {kk:KK} {m:MK} {y:PV} (ho:∀k∈h.ids,o' k=o k):LA o' kk m y h=LA o kk m y h:=by
 cases h with
 |ref id n=>simp only[LA];rw[ho id Ah]
 |_=>rfl
def wW{v:Operand}(ho:∀k∈dv e [x],o' k=o k):my E o' e t x i v=my E o e t x i v:=by
 unfold my
 cases E t with
 |none=>rfl
 | some ii =>
  dsimp only;cases ii.k<;>try rfl
  rename_i kt et;dsimp only
  cases E kt with
  |none=>rfl
  | some ki =>
   dsimp only
   cases hex:e x with
   |none=>rfl
   | some r =>
    cases r with
    |tup l=>rfl
    | v cc =>
     cases cc with
     |agg l=>rfl
     | one h =>
      dsimp only;have:=λkk m y=>aqm (o:=o) (o':=o') (h:=h) (kk:=kk) (m:=m) (y:=y) (λk hk=>ho k (fe hex Ec k hk));simp only[this]
def WS (hx:∀x∈op.operands,e' x=e x) (ho:∀k∈dv e op.operands.toList,o' k=o k):hs E o' e' op=hs E o e op:=by
 cases op<;>try rfl
 case mapUpdate t x i v =>
  show my E o' e' t x i v=my E o e t x i v;have h1:my E o' e' t x i v=my E o' e t x i v:=by unfold my;rw[hx x Kf,hx i Kf,hx v Kf]
  rw[h1];refine wW λk hk=>ho k ?_;simp only[dv,Op.operands,Mg]at hk ⊢;exact Ig _ hk
 case insert t x i v =>
  show my E o' e' t x i v=my E o e t x i v;have h1:my E o' e' t x i v=my E o' e t x i v:=by unfold my;rw[hx x Kf,hx i Kf,hx v Kf]
  rw[h1];refine wW λk hk=>ho k ?_;simp only[dv,Op.operands,Mg]at hk ⊢;exact Ig _ hk
 case store t addr v =>
  show mf E o' e' t addr v=mf E o e t addr v;have h1:mf E o' e' t addr v=mf E o' e t addr v:=by unfold mf;rw[hx addr Kf,hx v Kf]
  rw[h1];exact ako (by simpa [Op.operands]using ho)
def vW(ho:∀k∈h.ids,o' k=o k):ze o' id h=ze o id h:=by
 cases h with
 | p x =>
  cases x with
  | raw v =>
   cases v with
   |slice a n c=>cases n<;>rfl
   |_=>rfl
  |_=>rfl
 |ref id' n=>simp only[ze];rw[ho id' Ah]
 |_=>rfl
variable {wb:Bool}
def BL {y:HV} (hid:o' id=o id) (ho:∀k∈y.ids,o' k=o k):th E o' id n wb el y=th E o id n wb el y:=by
 simp only[th];rw[hid,vW ho]
def DV (ho:∀k∈h.ids,o' k=o k):Xq o' id h=Xq o id h:=by
 simp only[Xq];rw[vW ho]
 cases h with
 |ref id' n=>simp only;rw[ho id' Ah]
 |_=>rfl
def aph {y:HV} (hid:o' id=o id) (ho:∀k∈y.ids,o' k=o k):Zt E o' id n el y=Zt E o id n el y:=by
 simp only[Zt];rw[hid,DV ho]
def awb {y:HV} (hid:o' id=o id) (ho:∀k∈y.ids,o' k=o k):Ft E o' id n el y=Ft E o id n el y:=by
 simp only[Ft];rw[hid,DV ho]
def as3 {i k:Nat} {y:HV} (hid:o' id=o id):Ut E o' el id n i k y=Ut E o el id n i k y:=by
 unfold Ut;rw[hid]
def aw1 {z:List Value} (ho:∀k∈h.ids,o' k=o k):Xv o' z n h=Xv o z n h:=by
 cases h with
 |win id n i m=>simp only[Xv];rw[ho id Ah]
 |_=>rfl
def arx{hy hx:HV}(h1:∀k∈hx.ids,o' k=o k)(h2:∀k∈hy.ids,o' k=o k):yz E o' id wb el hy hx=yz E o id wb el hy hx:=by
 cases hx with
 | win id1 n i k =>
  simp only[yz];exact as3 (h1 id1 Ah)
 | pin id1 n ad cap =>
  simp only[yz];rw[BL (o:=o) (o':=o') (h1 id1 Ah) h2]
 | ref id1 n =>
  simp only[yz];rw[BL (o:=o) (o':=o') (h1 id1 Ah) h2,aph (o:=o) (o':=o') (h1 id1 Ah) h2,awb (o:=o) (o':=o') (h1 id1 Ah) h2]
 | p px =>
  cases px with
  | sl n sz cl f =>
   cases cl with
   |false=>rfl
   | true =>
    simp only[yz]
    cases E el with
    |none=>rfl
    | some ei =>
     dsimp only
     rw [BL (o:=λk=>if k=id then some (a8.arr false ei.size el n f)else o k) (o':=λk=>if k=id then some (a8.arr false ei.size el n f)else o' k) Ec (λk hk=>by
      try dsimp only
      split
      .rfl
      exact h2 k hk)]
  |_=>rfl
 |_=>rfl
def arp{x y:Option HR}(hx:∀r,x=some r->∀k∈r.ids,o' k=o k)(hy:∀r,y=some r->∀k∈r.ids,o' k=o k):
 Ww E o' id wb t x y=Ww E o id wb t x y:=by
 unfold Ww
 cases E t with
 |none=>rfl
 | some i =>
  dsimp only;cases i.k<;>try rfl
  rename_i el
  cases x with
  |none=>rfl
  | some rx =>
   cases rx with
   |tup l=>rfl
   | v cx =>
    cases cx with
    |agg l=>rfl
    | one hxv =>
     cases y with
     |none=>rfl
     | some ry =>
      cases ry with
      |tup l=>rfl
      | v cy =>
       cases cy with
       |agg l=>rfl
       |one hyv=>exact arx (hx _ rfl) (hy _ rfl)
def b0e(hx:∀x∈op.operands,e' x=e x)(ho:∀k∈dv e op.operands.toList,o' k=o k):Ei E o' e' id wb op=Ei E o e id wb op:=by
 cases op<;>try rfl
 case call c =>
  unfold Ei;dsimp only;split
  .rename_i hc
   simp only[Op.operands,Call.operands,hc]at hx ho;have h1:∀x∈c.args.toList,e' x=e x:=λx hm=>hx x (by simpa using hm);have h2:∀k∈dv e c.args.toList,o' k=o k:=λk hk=>ho k (by simpa using hk);generalize c.args.toList=l at h1 h2;unfold nE;split
   .rename_i x y t t' _
    split
    .rw [h1 x Ec,h1 y Ec]
     exact arp (λr hr k hk=>h2 k (fe hr Ec k hk)) (λr hr k hk=>h2 k (fe hr Ec k hk))
    rfl
   rfl
  .rename_i hc
   simp only[Op.operands,Call.operands,hc]at hx ho;have h1:∀x∈c.args.toList,e' x=e x:=λx hm=>hx x (by simpa using hm);have h2:∀k∈dv e c.args.toList,o' k=o k:=λk hk=>ho k (by simpa using hk);generalize c.args.toList=l at h1 h2;unfold IB;split
   .rename_i x t _
    rw[h1 x Ec]
    cases E t with
    |none=>rfl
    | some ti =>
     dsimp only;cases ti.k<;>try rfl
     rename_i el;dsimp only
     cases E el with
     |none=>rfl
     | some ei =>
      dsimp only
      cases ei.zero with
      |none=>rfl
      | some z =>
       dsimp only;split
       .cases hex:e x with
        |none=>rfl
        | some r =>
         cases r with
         |tup l=>rfl
         | v cc =>
          cases cc with
          |agg l=>rfl
          |one hv=>exact aw1 λk hk=>h2 k (fe hex Ec k hk)
       rfl
   rfl
  rfl
def KW (ho:∀k∈h.ids,o' k=o k):Vt o' h=Vt o h:=by
 cases h with
 |ref id n=>simp only[Vt];rw[ho id Ah]
 |_=>rfl
end
end
end
section
open Go.RowKit
def qc (o:av):List Nat->List Nat
 | []=>[]
 |k::r=>k::((match o k with|some ob=>ob.ids|none=>[])++qc o r)
def x7 {o:av}:∀{l:List Nat} {k:Nat},k∈l->k∈qc o l
 | x::l,k,h=>by
  rcases Jd.1 h with rfl|h
  .simp[qc]
  simp only[qc,Jd,Af];exact .inr (.inr (x7 h))
def CL {o:av} {id:Nat} {ob:a8} (ho:o id=some ob):∀{l:List Nat} {k:Nat},id∈l->k∈ob.ids->k∈qc o l
 | x::l,k,h,hk=>by
  rcases Jd.1 h with rfl|h
  .simp only[qc,ho,Jd,Af];exact .inr (.inl hk)
  simp only[qc,Jd,Af];exact .inr (.inr (CL ho h hk))
def LV {o o':av}:∀{l:List Nat},(∀k∈l,o' k=o k)->qc o' l=qc o l
 | [],_=>rfl
 | x::l,h=>by
  simp only[qc];rw[h x Ec,LV λy hy=>h y (by simp[hy])]
section
variable {o o':av}{e e':Ev}
def tU:∀(n:Nat) (l:List HV) (k:Nat),k∈jp (l.drop n)->k∈jp l
 |0,l,k,h=>h
 |n+1,[],k,h=>h
 | n+1,x::l,k,h=>by
  simp only[jp,Af];exact .inr (tU n l k h)
def FL:∀{l:List HV},(∀k∈jp l,o' k=o k)->zb o' l=zb o l
 | [],_=>rfl
 | x::l,h=>by
  simp only[zb];rw[KW (o:=o) (o':=o') (h:=x) λk hk=>h k (Ig _ hk),FL λk hk=>h k (Bh _ hk)]
def art{h:HV}(ho:∀k∈qc o h.ids,o' k=o k):Dw o' h=Dw o h:=by
 cases h with
 |p x=>rfl
 |ref id n=>exact KW λk hk=>ho k (x7 hk)
 |eptr id n i j=>rfl
 |win id n i m=>rfl
 |clo g k caps=>rfl
 |row id i k=>rfl
 |rptr id i k r j=>rfl
 |pin id n ad cap=>rfl
 | ptr id off =>
  have hid:=ho id (x7 Ah);simp only[Dw];rw[hid]
  cases hob:o id with
  |none=>rfl
  | some ob =>
   cases ob with
   |mp kk n f=>rfl
   |bld fr T e l=>rfl
   |ex d v b x=>rfl
   |bun B=>rfl
   |opq s e n R=>rfl
   |nest e et es n m g pd=>rfl
   |arr wr s e n f=>rfl
   |arrh s e n ms f=>rfl
   | box l =>
    dsimp only;rw[FL (o:=o) (o':=o') λk hk=>ho k (CL hob Ah (by simpa [a8.ids]using tU off l k hk))]
theorem XK {l l':List Nat} (h:∀k∈l,k∈l'):∀k∈qc o l,k∈qc o l':=by
 induction l with
 |nil=>intro k hk;simp[qc]at hk
 | cons x l ih =>
  intro k hk;simp only[qc,Jd,Af]at hk
  rcases hk with rfl|hk|hk
  .exact x7 (h _ Ec)
  .cases hx:o x with
   |none=>rw[hx]at hk;cases hk
   |some ob=>rw[hx]at hk;exact CL hx (h x Ec) hk
  grind
def arl {x:HC} (ho:∀k∈qc o x.ids,o' k=o k):Lr o' x=Lr o x:=by
 cases x with
 |one h=>simp only[Lr];rw[art (o:=o) (o':=o') ho]
 |agg l=>simp only[Lr];rw[FL (o:=o) (o':=o') λk hk=>ho k (x7 hk)]
theorem iX:∀{l:List Operand},(∀x∈l,e' x=e x)->(∀k∈qc o (dv e l),o' k=o k)->lq o' e' l=lq o e l
 | [],_,_=>rfl
 | x :: l,hx,ho=>by
  simp only[lq];rw[hx x Ec,iX (λy hy=>hx y (by simp[hy])) (λk hk=>ho k (XK (λj hj=>by simp only[dv];exact Bh _ hj) k hk))]
  cases hex:e x with
  |none=>rfl
  | some r =>
   cases r with
   |tup l=>rfl
   | v cc =>
    have:=arl (o:=o) (o':=o') (x:=cc) λk hk=>ho k (XK (λj hj=>by simp only[dv,hex];exact Ig _ hj) k hk)
    grind
end
def Bx(o:Oper):Bool:=match o.op with | .call c=>(match c.callee with | .value _=>true|_=>false)|_=>false
def xp(o:Oper):Bool:=match o.op with | .move _=>true | .assign _=>true|_=>false
theorem b6x {o:Oper} (h:xp o=true):∃x,o.op=.move x\/o.op=.assign x:=by
 unfold xp at h
 grind
def looks(s:S)(o:Oper):List Nat:=bif xp o then[]else bif Bx o then qc s.o (dv (ev s) o.op.operands.toList)else dv (ev s) o.op.operands.toList
def eL {s:S} {o:Oper} {k:Nat} (hs:xp o=false) (h:k∈dv (ev s) o.op.operands.toList):k∈looks s o:=by
 unfold looks;rw[hs,cond_false]
 cases Bx o with
 |true=>exact x7 h
 |false=>exact h
section
variable {P:Program}{E:Xc}{nt:Nat}{s s':S}{ops:Array Oper}{o:Oper}{an:Tp}
section
variable {x:Option HR}
theorem FR {wr:Wr} (he:Ai P E nt ops o an s x wr):∀q∈wr,q.1∈an.W:=by
 intro q h
 cases he with
 |skip=>cases h
 | cut out id hw hd hq' hp hW =>
  grind
 |quiet=>cases h
 |make nw hw hd hq' hp hm hn hW hN hM=>rw[Bf.1 h,hW];exact Bf.2 rfl
 |store u hw hd hq' hp hW hM=>rw[Bf.1 h,hW];exact Bf.2 rfl
 |app u hw hd hq' hp hn hW hN hM=>rw[Bf.1 h,hW];exact Bf.2 rfl
 |call=>cases h
 |conv=>cases h
 | fcall cl f caps args hcs o1 o2 res fx hw hd ho hc hf hv hco hfun hsub hnew hnm hcl hclr hW hN hM =>
  rw[hW]
  rcases Af.1 h with h|h
  .obtain ⟨p,hp,rfl⟩:=Ad.1 h
   exact Bh _ (Ad.2 ⟨p,hp,rfl⟩)
  obtain⟨p,hp,rfl⟩:=Ad.1 h;exact Ig _ (Ad.2 ⟨p,hp,rfl⟩)
def nK:∀{l:List (Nat×a8)} {p:Nat×a8} {k:Nat},p∈l->k∈p.2.ids->k∈Bt l
 | (i,x)::l,p,k,h,hk=>by
  rcases Jd.1 h with rfl|h
  .exact Ig _ hk
  exact Bh _ (nK h hk)
theorem b5z {wr:Wr} (he:Ai P E nt ops o an s x wr):(∀r,x=some r->∀k∈r.ids,k∈an.M)/\(∀id ob,(id,some ob)∈wr->∀k∈ob.ids,k∈an.M):=by
 cases he with
 |skip=>exact⟨(λr h k hk=>by cases h;simp[HR.ids,Mt]at hk),(λid ob h=>by cases h)⟩
 | cut out id hw hd hq' hp hW=>exact⟨(λr h k hk=>by
  cases h;unfold zi at hq';split at hq'<;>try(cases hq';done)
  split at hq'<;>try(cases hq';done)
  split at hq'<;>try(cases hq';done)
  split at hq'<;>try(cases hq';done)
  rename_i out1 hsl;simp only[Bb,Tc]at hq';obtain⟨rfl,_⟩:=hq';obtain⟨y,hy⟩:=ark hsl;have hk':k∈out1.val.ids:=hk;rw[hy]at hk'
  simp[bu,HR.ids,HC.ids,HV.ids]at hk'),(λid ob h=>by simp at h)⟩
 | quiet out hw hd hq' hp hM =>
  grind
 | make nw hw hd hq' hp hm hn hW hN hM =>
  grind
 | store u hw hd hq' hp hW hM =>
  grind
 | app u hw hd hq' hp hn hW hN hM =>
  grind
 | call cl f fst caps args p vs b hw hd ho hc hf hv hp hco hpure hb hM =>
  refine⟨λr h k hk=>?_,(λid ob h=>by cases h)⟩;simp only[Bb]at h;subst h;rw[PR.ids_toH]at hk;cases hk
 | conv sr ds x b hw hd ho Xd hp hM =>
  refine⟨λr h k hk=>?_,(λid ob h=>by cases h)⟩;simp only[Bb]at h;subst h;simp[HR.ids,HC.ids,HV.ids]at hk
 | fcall cl f caps args hcs o1 o2 res fx hw hd ho hc hf hv hco hfun hsub hnew hnm hcl hclr hW hN hM =>
  refine⟨λr h k hk=>?_,λid ob h k hk=>?_⟩
  .grind
  rw[hM]
  rcases Af.1 h with h|h
  .obtain ⟨p,hp,e⟩:=Ad.1 h
   simp only[Tc,Bb]at e;refine Bh _ (nK hp ?_)
   grind
  grind
theorem ary{E:Xc}{o o':av}{e e':Ev}{op:Op}(hx:∀x∈op.operands,e' x=e x)(ho:∀k∈dv e op.operands.toList,o' k=o k):zi E o' e' op=zi E o e op:=by
 cases op with
 | slice t x lo hi mx =>
  cases x with
  | tmp d =>
   have h1:=hx (.tmp d) Kf;simp only[zi];rw[h1]
   cases he:e (.tmp d) with
   |none=>rfl
   | some r =>
    match r,he with
    | .v (.one (.ref id n)),he =>
     dsimp only;rw[ho id (fe (e:=e) (x:=.tmp d) he Kf id (by simp[HR.ids,HC.ids,HV.ids]))]
     have hc:∀r,∀y∈(Op.slice t (.tmp d) lo hi mx).operands,Br e' d r y=Br e d r y:=λr y hy=>by
      cases y with
      | tmp k =>
       simp only[Br]
       grind
      |const v=>exact hx _ hy
      |func v=>exact hx _ hy
      |global v=>exact hx _ hy
     cases ho:o id with
     |none=>rfl
     | some ob =>
      cases ob with
      | arr wr sz el n' f =>
       dsimp only
       have:∀r,mh E (Br e' d r) t (.tmp d) lo hi mx=mh E (Br e d r) t (.tmp d) lo hi mx:=λr=>by
        unfold mh;rw[hc r (.tmp d) Kf,o6 (x:=lo) λy hy=>hc r y (by simp[Op.operands]at hy ⊢;simp[hy]),o6 (x:=hi) λy hy=>hc r y (by simp[Op.operands]at hy ⊢;simp[hy]),o6 (x:=mx) λy hy=>hc r y (by simp[Op.operands]at hy ⊢;simp[hy])]
       rw[this]
      |_=>rfl
    | .v (.one (.p _)),_=>rfl
    | .v (.one (.ptr _ _)),_=>rfl
    | .v (.one (.eptr _ _ _ _)),_=>rfl
    | .v (.one (.win _ _ _ _)),_=>rfl
    | .v (.one (.clo _ _ _)),_=>rfl
    | .v (.one (.row _ _ _)),_=>rfl
    | .v (.one (.rptr _ _ _ _ _)),_=>rfl
    | .v (.one (.pin _ _ _ _)),_=>rfl
    | .v (.agg _),_=>rfl
    | .tup _,_=>rfl
  |_=>rfl
 |_=>rfl
theorem mV {wr:Wr} (he:Ai P E nt ops o an s x wr) (hx:∀y∈o.op.operands,ev s' y=ev s y) (hg:b6 ops s' o=b6 ops s o) (ho:∀k∈looks s o,s'.o k=s.o k) (hW:∀k∈an.W,s'.o k=s.o k) (hN:∀k∈an.N,Yl s an.W k->Yl s' an.W k):Ai P E nt ops o an s' x wr:=by
 cases hst:xp o with
 | true =>
  obtain⟨y,hop⟩:=b6x hst;have hy:ev s' y=ev s y:=hx y (by rcases hop with h|h<;>simp[h,Op.operands])
  cases he with
  |skip hw hd=>exact .skip (hg.trans hw) hd
  | quiet out hw hd hq' hp hM =>
   refine .quiet out (hg.trans hw) hd ?_ hp hM;rw[<- hq']
   rcases hop with h|h<;>rw[h]<;>simp only[hq]<;>rw[hy]
  |cut out id hw hd hq' hp hW'=>rcases hop with h|h<;>rw[h]at hq'<;>cases hq'
  |make nw hw hd hq' hp hm hn hW' hN' hM=>rcases hop with h|h<;>rw[h]at hq'<;>cases hq'
  |store u hw hd hq' hp hW' hM=>rcases hop with h|h<;>rw[h]at hq'<;>cases hq'
  |app u hw hd hq' hp hn hW' hN' hM=>rcases hop with h|h<;>rw[h]at hq'<;>cases hq'
  |call cl f fst caps args p vs b hw hd hop2=>rcases hop with h|h<;>rw[h]at hop2<;>cases hop2
  |conv sr ds x b hw hd hop2=>rcases hop with h|h<;>rw[h]at hop2<;>cases hop2
  |fcall cl f caps args hcs o1 o2 res fx hw hd hop2=>rcases hop with h|h<;>rw[h]at hop2<;>cases hop2
 |false =>
 have ho1:∀k∈dv (ev s) o.op.operands.toList,s'.o k=s.o k:=λk hk=>ho k (eL hst hk)
 cases he with
 |skip hw hd=>exact .skip (hg.trans hw) hd
 |cut out id hw hd hq' hp hW'=>exact .cut out id (hg.trans hw) hd ((ary hx ho1).trans hq') hp hW'
 |quiet out hw hd hq' hp hM=>exact .quiet out (hg.trans hw) hd ((b5u hx ho1).trans hq') hp hM
 | make nw hw hd hq' hp hm hn hW' hN' hM =>
  have e:=(hW _ (by rw[hW'];simp)).trans hn;have q:=hN an.id (by rw[hN'];simp) (hm.nmx _);rw[hW']at q;exact .make nw (hg.trans hw) hd ((b5t hx).trans hq') hp (q.nm e) e hW' hN' hM
 |store u hw hd hq' hp hW' hM=>exact .store u (hg.trans hw) hd ((WS hx ho1).trans hq') hp hW' hM
 | app u hw hd hq' hp hn hW' hN' hM =>
  refine .app u (hg.trans hw) hd ((b0e hx ho1).trans hq') hp (λh=>?_) hW' hN' hM;obtain⟨h1,h2⟩:=hn h
  have hid:u.id=an.id:=by
   have:=hq';unfold Ei at this;split at this<;>try(cases this;done)
   split at this<;>try(cases this;done)
   case h_2 =>
    have e:u.new=false:=by
     unfold IB at this;split at this<;>try(cases this;done)
     split at this<;>try(cases this;done)
     split at this<;>try(cases this;done)
     split at this<;>try(cases this;done)
     split at this<;>try(cases this;done)
     split at this<;>try(cases this;done)
     split at this<;>try(cases this;done)
     unfold Xv at this
     grind
    grind
   unfold nE at this;split at this<;>try(cases this;done)
   split at this<;>try(cases this;done)
   unfold Ww at this;split at this<;>try(cases this;done)
   split at this<;>try(cases this;done)
   split at this<;>try(cases this;done)
   split at this<;>try(cases this;done)
   unfold yz at this;split at this<;>try(cases this;done)
   .unfold Ut at this
    grind
   .grind
   .grind
   grind
  have e:=(hW _ (by rw[hW',hid];simp)).trans h2;have q:=hN an.id (by rw[hN' h];simp) (h1.nmx _);rw[hW',hid]at q;exact⟨q.nm e,e⟩
 | conv sr ds x b hw hd hop Xd hp hM =>
  refine .conv sr ds x b (hg.trans hw) hd hop ?_ hp hM;have hxx:ev s' x=ev s x:=hx x (by rw[hop];simp[Op.operands]);unfold DA at Xd ⊢
  grind
 | call cl f fst caps args p vs b hw hd hop hc hf hv hp hco hpure hb hM =>
  have hxa:∀y∈cl.args.toList,ev s' y=ev s y:=λy hy=>hx y (by rw[hop];simp only[Op.operands,Call.operands];simp;exact .inr (by simpa using hy))
  have hcal:callee (ev s') cl=callee (ev s) cl:=by
   unfold callee;split
   .rename_i fo hcl
    rw[hx fo (by rw[hop];simp[Op.operands,Call.operands,hcl])]
   rfl
  refine .call cl f fst caps args p vs b (hg.trans hw) hd hop (hcal.trans hc) hf ((iX hxa λk hk=>ho k ?_).trans hv) hp hco hpure hb hM
  obtain ⟨fo,hcl⟩:∃fo,cl.callee=.value fo:=by
   unfold callee at hc
   grind
  unfold looks;rw[hst,cond_false,show Bx o=true from by unfold Bx;rw[hop];simp only[hcl]];refine XK (λj hj=>?_) k hk;rw[hop];simp only[Op.operands,Call.operands]
  have key:∀l1 l2:List Operand,∀j∈dv (ev s) l2,j∈dv (ev s) (l1++l2):=by
   intro l1
   induction l1 with
   |nil=>intro l2 j hj;exact hj
   |cons y l1 ih=>intro l2 j hj;simp only[Ql,dv];exact Bh _ (ih l2 j hj)
  grind
 | fcall cl f caps args hcs o1 o2 res fx hw hd hop hc hf hv hco hfun hsub hnew hnm hcl hclr hW' hN' hM =>
  have hxa:∀y∈cl.args.toList,ev s' y=ev s y:=λy hy=>hx y (by rw[hop];simp only[Op.operands,Call.operands];simp;exact .inr (by simpa using hy))
  have hcal:wv (ev s') cl=wv (ev s) cl:=by
   unfold wv;split
   .rename_i fo hcl
    rw[hx fo (by rw[hop];simp[Op.operands,Call.operands,hcl])]
   rfl
  have hv':tg (ev s') cl.args.toList=tg (ev s) cl.args.toList:=by
   have:∀l:List Operand,(∀y∈l,ev s' y=ev s y)->tg (ev s') l=tg (ev s) l:=by
    intro l
    induction l with
    |nil=>intro _;rfl
    | cons y l ih =>
     intro hl;simp only[tg]
     grind
   grind
  have hsame:∀k,k∈dx o1++dx o2->s'.o k=s.o k:=λk hk=>hW k (by rw[hW'];exact hk);refine .fcall cl f caps args hcs o1 o2 res fx (hg.trans hw) hd hop (hcal.trans hc) hf (hv'.trans hv) hco hfun (λid ob hid=>?_) (λid h2 h1=>?_) (λid h2 h1=>?_) hcl hclr hW' hN' hM
  .rw [hsame id (Ig _ (LI hid))]
   grind
  .grind
  grind
end
end
structure MM where
 R:List Nat
 W:List Nat
 N:List Nat
 M:List Nat
 O:List Nat
def yo (s:S):Wr->List Nat
 | []=>[]
 |(id,_)::r=>(match s.o id with|some ob=>ob.ids|none=>[])++yo s r
def d8 (s:S) (d:Option Tmp) (wr:Wr):List Nat :=
 (match d with|some d=>(match s.t d with|some v=>v.ids|none=>[])|none=>[])++yo s wr
theorem yS {s:S} {id:Nat} {ob:a8} (ho:s.o id=some ob) {k:Nat} (hk:k∈ob.ids):∀{l:Wr} {r:Option a8},(id,r)∈l->k∈yo s l
 | (e,x)::l,r,h=>by
  rcases Jd.1 h with h|h
  .simp only [Tc]at h
   obtain⟨rfl,rfl⟩:=h;simp only[yo,ho]
   grind
  simp only[yo];exact Bh _ (yS ho hk h)
def xL {s s':S}:∀{l:Wr},(∀q∈l,s'.o q.1=s.o q.1)->yo s' l=yo s l
 | [],_=>rfl
 | (id,x)::l,h=>by
  simp only[yo];rw[h (id,x) Ec,xL λq hq=>h q (by simp[hq])]
def Nq:List Nat->List Nat->Bool
 | [],_=>true
 |x::l,m=>!(m.any (Nat.beq x))&&Nq l m
def um:∀{l m:List Nat},Nq l m=true->∀k∈l,k∉m
 | x :: l,m,h,k,hk,hm=>by
  simp only[Nq,Od,Nh]at h
  rcases Jd.1 hk with rfl|hk
  .have:=h.1
   rw[Dk]at this;exact this k hm Ec
  exact um h.2 k hk hm
def CI (ops:Array Oper) (ox oy:Oper) (x y:MM):Bool :=
 ox.apart ops oy&&Nq x.W y.R&&Nq x.W y.W&&Nq y.W x.R&&Nq y.N x.O&&Nq x.N y.M
section
variable {P:Program}{E:Xc}{nt:Nat}{s:S}{ops:Array Oper}
section
variable {d:Option Tmp}{k:Nat}{wr:Wr}{x:Option HR}
def gc (h:d≠some k):(s.after d x wr).t k=s.t k:=by
 unfold S.after S.putD
 cases d with
 |none=>rfl
 | some j =>
  have hne:k≠j:=λe=>h (by rw[e]);simp[S.put,S.setW,hne]
def rt:(s.after d x wr).o k=match jb wr k with|some r=>r|none=>s.o k:=by
 unfold S.after S.putD;cases d<;>rfl
def tJ (h:∀q∈wr,q.1≠k):(s.after d x wr).o k=s.o k:=by
 rw[rt,aw5 h]
def lF {y:Operand} (h:∀k,d=some k->y≠.tmp k):ev (s.after d x wr) y=ev s y:=by
 cases y with
 |tmp k=>exact gc λe=>h k e rfl
 |_=>rfl
variable {o:Oper}
def vi (h:∀k,d=some k->k∉o.looksAt ops):b6 ops (s.after d x wr) o=b6 ops s o:=by
 unfold b6;split
 .rfl
 rename_i j want hg
 cases hd:(ops[j]?).bind (·.dst) with
 |none=>rfl
 | some k =>
  dsimp only;rw[gc λe=>h k e (by simp[Oper.looksAt,hg,hd])]
def t8 (h:k∉o.looksAt ops):∀y∈o.op.operands,y≠.tmp k:=by
 rintro y hy rfl;apply h;unfold Oper.looksAt;apply Ig;rw[List.mem_filterMap];exact⟨.tmp k,by simpa using hy,rfl⟩
def akz{W:List Nat}(hs:Yl s W k)(hx:∀r,x=some r->k∉r.ids)(hw:∀id ob,(id,some ob)∈wr->k∉ob.ids):Yl (s.after d x wr) W k:=by
 refine⟨?_, ?_,hs.2.2⟩
 .intro j r hr hm
  by_cases hj:d=some j
  .subst hj
   have:(s.after (some j) x wr).t j=x:=by unfold S.after S.putD;simp[S.put]
   rw[this]at hr;exact hx r hr (HR.men_ids hm)
  rw[gc hj]at hr;exact hs.1 j r hr hm
 intro id ob hidW hob hm;rw[rt]at hob
 cases hl:jb wr id with
 |none=>rw[hl]at hob;exact hs.2.1 id ob hidW hob hm
 | some r =>
  rw[hl]at hob;have hob:r=some ob:=hob;subst hob;exact hw id ob (ux hl) (a8.men_ids hm)
def are{W:List Nat}(hs:Yl (s.after d x wr) W k)(ho:k∉d8 s d wr):Yl s W k:=by
 refine⟨?_, ?_,hs.2.2⟩
 .intro j r hr hm
  by_cases hj:d=some j
  .subst hj
   apply ho;unfold d8;simp only[hr];exact Ig _ (HR.men_ids hm)
  exact hs.1 j r (by rw[gc hj];exact hr) hm
 intro id ob hidW hob hm
 cases hl:jb wr id with
 |none=>exact hs.2.1 id ob hidW (by rw[rt,hl];exact hob) hm
 | some r =>
  apply ho;unfold d8;exact Bh _ (yS hob (a8.men_ids hm) (ux hl))
def avt{d':Option Tmp}{x':Option HR}{wr':Wr}(hd:∀k,d=some k->d'≠some k)(hw:∀q∈wr,∀q'∈wr',q.1≠q'.1):
 (s.after d x wr).after d' x' wr'=(s.after d' x' wr').after d x wr:=by
 have ht:∀k,((s.after d x wr).after d' x' wr').t k=((s.after d' x' wr').after d x wr).t k:=by
  intro k;by_cases h1:d=some k
  .have h2:=hd k h1
   subst h1;rw[gc h2];have e1:(s.after (some k) x wr).t k=x:=by unfold S.after S.putD;simp[S.put]
   have e2:((s.after d' x' wr').after (some k) x wr).t k=x:=by unfold S.after S.putD;simp[S.put]
   rw[e1,e2]
  by_cases h2:d'=some k
  .subst h2
   rw[gc (s:=s.after (some k) x' wr') h1];have e1:((s.after d x wr).after (some k) x' wr').t k=x':=by unfold S.after S.putD;simp[S.put]
   have e2:(s.after (some k) x' wr').t k=x':=by unfold S.after S.putD;simp[S.put]
   rw[e1,e2]
  rw[gc h2,gc h1,gc h1,gc h2]
 have ho:∀k,((s.after d x wr).after d' x' wr').o k=((s.after d' x' wr').after d x wr).o k:=by
  intro k;rw[rt,rt,rt,rt]
  cases h1:jb wr k with
  |none=>rfl
  | some r =>
   cases h2:jb wr' k with
   |none=>rfl
   |some r'=>exact(hw (k,r) (ux h1) (k,r') (ux h2) rfl).elim
 cases h1:(s.after d x wr).after d' x' wr' with
 | mk t1 o1 =>
  cases h2:(s.after d' x' wr').after d x wr with
  | mk t2 o2 =>
   rw[h1,h2]at ht ho;have:t1=t2:=funext ht;have:o1=o2:=funext ho;simp_all
structure ZA where
 id:Nat
 off:Nat
 len:Nat
 wr:Bool
def gf (E:Xc) (s:S) (o:Oper):Option ZA :=
 match o.op with
 | .load t x=>match E t,ev s x with|some i,some (.v (.one (.ptr id off)))=>some ⟨id,off,i.size,false⟩|_,_=>none
 | .nilCheck x=>match ev s x with|some (.v (.one (.ptr id off)))=>some ⟨id,off,0,false⟩|_=>none
 | .move x=>match ev s x with|some (.v (.one (.ptr id off)))=>some ⟨id,off,0,false⟩|_=>none
 | .assign x=>match ev s x with|some (.v (.one (.ptr id off)))=>some ⟨id,off,0,false⟩|_=>none
 | .fieldAddr _ x _=>match ev s x with|some (.v (.one (.ptr id off)))=>some ⟨id,off,0,false⟩|_=>none
 | .store t x _=>match E t,ev s x with|some i,some (.v (.one (.ptr id off)))=>some ⟨id,off,i.size,true⟩|_,_=>none
 |_=>none
def w6 {E:Xc} {s s':S} (h:∀y∈o.op.operands,ev s' y=ev s y):gf E s' o=gf E s o:=by
 unfold gf;cases ho:o.op<;>rw[ho]at h<;>simp only[Op.operands]at h<;>try rfl
 all_goals (dsimp only;rw[h _ Ec])
structure Tr where
 i:Nat
 an:Tp
 R:List Nat
 O:List Nat
 F:Option ZA
def Tr.foot(t:Tr):MM:=⟨t.R,t.an.W,t.an.N,t.an.M,t.O⟩
inductive nf (P:Program) (E:Xc) (nt:Nat) (ops:Array Oper):List Tr->S->S->Prop where
 |nil (s:S):nf P E nt ops [] s s
 | cons {i:Nat} {an:Tp} {R O:List Nat} {F:Option ZA} {o:Oper} {s s':S} {x:Option HR} {wr:Wr} {T:List Tr} (hi:ops[i]? = some o) (he:Ai P E nt ops o an s x wr) (hR:looks s o=R) (hO:∀k∈d8 s o.dst wr,k∈O)
  (hF:∀f,F=some f->gf E s o=some f/\b6 ops s o=some true) (hT:nf P E nt ops T (s.after o.dst x wr) s'):nf P E nt ops (⟨i,an,R,O,F⟩::T) s s'
def Mq(l m:List Nat):Bool:=l.all λk=>m.any (Nat.beq k)
def up {l m:List Nat} (h:Mq l m=true):∀k∈l,k∈m:=by
 intro k hk;unfold Mq at h;simp_all
def DI(ops:Array Oper)(ox oy:Oper)(x y:Tr):Bool :=
 match x.F,y.F with
 | some f,some g =>
  ox.apart ops oy&&Nat.beq f.id g.id&&(Nat.ble (f.off+f.len) g.off||Nat.ble (g.off+g.len) f.off)&&x.an.N.isEmpty&&y.an.N.isEmpty &&
  (match f.wr,g.wr with
   |true,true=>Mq x.O y.an.M&&Mq x.O x.an.M&&Mq y.an.M x.an.M&&Mq x.O y.O&&Mq y.an.M x.O&&Mq x.an.M y.an.M
   |true,false=>true
   |false,true=>true
   |false,false=>false)
 |_,_=>false
def wA (ops:Array Oper) (x y:Tr):Bool :=
 match ops[x.i]?,ops[y.i]? with
 |some ox,some oy=>CI ops ox oy x.foot y.foot||DI ops ox oy x y
 |_,_=>false
def CW (h:∀y∈o.op.operands,ev (s.after d x wr) y=ev s y) (ho:xp o=false->∀k∈dv (ev s) o.op.operands.toList,(s.after d x wr).o k=s.o k):looks (s.after d x wr) o=looks s o:=by
 unfold looks
 cases hst:xp o with
 |true=>rfl
 |false =>
 have ho:=ho hst;rw[sx (e:=ev s) (λy hy=>h y (by simpa using hy)),LV ho]
variable {T:List Tr}
theorem TZ {sf:S} {x y:Tr} {ox0 oy0:Oper} (h:nf P E nt ops (x::y::T) s sf) (hx0:ops[x.i]? = some ox0) (hy0:ops[y.i]? = some oy0) (hp:CI ops ox0 oy0 x.foot y.foot=true):nf P E nt ops (y::x::T) s sf:=by
 cases h with
 | @cons ix anx Rx Ox Fx ox _ _ vx wx _ hix hex hRx hOx hFx h =>
 cases h with
 | @cons iy any Ry Oy Fy oy _ _ vy wy _ hiy hey hRy hOy hFy h =>
 obtain rfl:ox0=ox:=by have:=hx0.symm.trans hix;simpa using this
 obtain rfl:oy0=oy:=by have:=hy0.symm.trans hiy;simpa using this
 simp only[CI,Od,Tr.foot]at hp;obtain⟨⟨⟨⟨⟨Ei,h1⟩,h2⟩,h3⟩,h4⟩,h5⟩:=hp;have h1:=um h1;have h2:=um h2;have h3:=um h3;have h4:=um h4;have h5:=um h5;obtain⟨a1,a2,a3⟩:=Oper.apart_spec Ei;have hwx:=FR hex;have hwy:=FR hey;have eyx:∀z∈oy0.op.operands,ev (s.after ox0.dst vx wx) z=ev s z:=λz hz=>lF λk hk=>t8 (a1 k hk) z hz;have gy:b6 ops (s.after ox0.dst vx wx) oy0=b6 ops s oy0:=vi a1
 have oyx:∀k∈Ry++any.W,(s.after ox0.dst vx wx).o k=s.o k:=λk hk=>tJ λq hw e=>by
  grind
 have hlk:looks s oy0=Ry:=by
  rw[<- hRy]
  have hids:xp oy0=false->∀k∈dv (ev s) oy0.op.operands.toList,(s.after ox0.dst vx wx).o k=s.o k:=by
   intro hst k hk;refine oyx k (Ig _ ?_);rw[<- hRy];refine eL hst ?_;rw[sx (e:=ev s) (λz hz=>eyx z (by simpa using hz))];exact hk
  exact(CW eyx hids).symm
 have hey':Ai P E nt ops oy0 any s vy wy:=mV hey (λz hz=>(eyx z hz).symm) gy.symm (λk hk=>by
  rw[hRy]at hk
  exact(oyx k (Ig _ hk)).symm) (λk hk=>(oyx k (Bh _ hk)).symm) (λk hk hnm=>are hnm (λhk'=>h4 k hk (hOx k hk')))
 have exy:∀z∈ox0.op.operands,ev (s.after oy0.dst vy wy) z=ev s z:=λz hz=>lF λk hk=>t8 (a3 k hk) z hz;have gx:b6 ops (s.after oy0.dst vy wy) ox0=b6 ops s ox0:=vi a3
 have oxy:∀k∈Rx++anx.W,(s.after oy0.dst vy wy).o k=s.o k:=λk hk=>tJ λq hw e=>by
  grind
 have hlx:looks (s.after oy0.dst vy wy) ox0=Rx:=by
  rw[CW exy (λhst k hk=>oxy k (Ig _ (by rw[<- hRx];exact eL hst hk))),hRx]
 obtain⟨m1,m2⟩:=b5z hey
 have hex':Ai P E nt ops ox0 anx (s.after oy0.dst vy wy) vx wx:=mV hex exy gx (λk hk=>oxy k (Ig _ (by rw[<- hRx];exact hk))) (λk hk=>oxy k (Bh _ hk))
  (λk hk hnm=>akz hnm (λr hr hkr=>h5 k hk (m1 r hr k hkr)) (λid ob hw hko=>h5 k hk (m2 id ob hw k hko)))
 have hdne:∀k,ox0.dst=some k->oy0.dst≠some k:=a2
 have hOy':d8 s oy0.dst wy=d8 (s.after ox0.dst vx wx) oy0.dst wy:=by
  unfold d8;congr 1
  .cases hd:oy0.dst with
   |none=>rfl
   |some k=>dsimp only;rw[gc λe=>a2 k e hd]
  exact(xL λq hq=>oyx q.1 (Bh _ (hwy q hq))).symm
 have hOx':d8 (s.after oy0.dst vy wy) ox0.dst wx=d8 s ox0.dst wx:=by
  unfold d8;congr 1
  .cases hd:ox0.dst with
   |none=>rfl
   |some k=>dsimp only;rw[gc (a2 k hd)]
  exact xL λq hq=>oxy q.1 (Bh _ (hwx q hq))
 rw[avt hdne λq hq q' hq' e=>h2 q.1 (hwx q hq) (by rw[e];exact hwy q' hq')]at h;exact .cons hiy hey' hlk (λk hk=>hOy k (by rw[<- hOy'];exact hk)) (λf hf=>⟨(w6 eyx).symm.trans (hFy f hf).1,gy.symm.trans (hFy f hf).2⟩) (.cons hix hex' hlx (λk hk=>hOx k (by rw[<- hOx'];exact hk)) (λf hf=>⟨(w6 exy).trans (hFx f hf).1,gx.trans (hFx f hf).2⟩) h)
variable {f:ZA}
theorem CB (h:gf E s o=some f):(f.wr=false/\((∃t x,o.op=.load t x)\/(∃x,o.op=.nilCheck x)\/(∃t x k,o.op=.fieldAddr t x k)\/(∃x,o.op=.move x)\/∃x,o.op=.assign x))\/(f.wr=true/\∃t x v,o.op=.store t x v):=by
 unfold gf at h
 grind
theorem eU {an:Tp} (he:Ai P E nt ops o an s x wr) (hf:gf E s o=some f) (hw:b6 ops s o=some true) (hr:f.wr=false):
 ∃out,x=some out.val/\wr=[]/\hq E an.ex s.o (ev s) o.op=some out/\out.pre/\dc nt o.dst=true/\out.val.ids=an.M:=by
 have hops:(∃t x,o.op=.load t x)\/(∃x,o.op=.nilCheck x)\/(∃t x k,o.op=.fieldAddr t x k)\/(∃x,o.op=.move x)\/∃x,o.op=.assign x:=by
  rcases CB hf with⟨_,h⟩|⟨h,_⟩
  .exact h
  grind
 cases he with
 |skip hw' hd=>rw[hw]at hw';cases hw'
 |quiet out hw hd hq' hp hM=>exact⟨out,rfl,rfl,hq',hp,hd,hM⟩
 |cut out id hw hd hq' hp hW=>rcases hops with⟨t,x,h⟩|⟨x,h⟩|⟨t,x,k,h⟩|⟨x,h⟩|⟨x,h⟩<;>(rw[h]at hq';cases hq')
 |make nw hw hd hq' hp hm hn hW hN hM=>rcases hops with⟨t,x,h⟩|⟨x,h⟩|⟨t,x,k,h⟩|⟨x,h⟩|⟨x,h⟩<;>(rw[h]at hq';cases hq')
 |store u hw hd hq' hp hW hM=>rcases hops with⟨t,x,h⟩|⟨x,h⟩|⟨t,x,k,h⟩|⟨x,h⟩|⟨x,h⟩<;>(rw[h]at hq';cases hq')
 |app u hw hd hq' hp hn hW hN hM=>rcases hops with⟨t,x,h⟩|⟨x,h⟩|⟨t,x,k,h⟩|⟨x,h⟩|⟨x,h⟩<;>(rw[h]at hq';cases hq')
 |call cl f fst caps args p vs b hw hd ho hc hf hv hp hco hpure hb hM=>rcases hops with⟨t,x,h⟩|⟨x,h⟩|⟨t,x,k,h⟩|⟨x,h⟩|⟨x,h⟩<;>(rw[h]at ho;cases ho)
 |conv sr ds x b hw hd ho Xd hp hM=>rcases hops with⟨t,x,h⟩|⟨x,h⟩|⟨t,x,k,h⟩|⟨x,h⟩|⟨x,h⟩<;>(rw[h]at ho;cases ho)
 |fcall cl f caps args hcs o1 o2 res fx hw hd ho hc hf hv hco hfun hsub hnew hnm hcl hclr hW hN hM=>rcases hops with⟨t,x,h⟩|⟨x,h⟩|⟨t,x,k,h⟩|⟨x,h⟩|⟨x,h⟩<;>(rw[h]at ho;cases ho)
theorem DK {an:Tp} (he:Ai P E nt ops o an s x wr) (hf:gf E s o=some f) (hw:b6 ops s o=some true) (hr:f.wr=true):
 ∃u,x=none/\wr=[(u.id,some u.ob)]/\hs E s.o (ev s) o.op=some u/\u.pre/\an.W=[u.id]/\(∀k∈u.ob.ids,k∈an.M)/\dc nt o.dst=true:=by
 have hops:∃t x v,o.op=.store t x v:=by
  rcases CB hf with⟨h,_⟩|⟨_,h⟩
  .grind
  exact h
 obtain⟨t,ad,v,h⟩:=hops
 cases he with
 |skip hw' hd=>rw[hw]at hw';cases hw'
 |quiet out hw hd hq' hp hM=>rw[h]at hq';cases hq'
 |cut out id hw hd hq' hp hW=>rw[h]at hq';cases hq'
 |make nw hw hd hq' hp hm hn hW hN hM=>rw[h]at hq';cases hq'
 |store u hw hd hq' hp hW hM=>exact⟨u,rfl,rfl,hq',hp,hW,hM,hd⟩
 |app u hw hd hq' hp hn hW hN hM=>rw[h]at hq';cases hq'
 |call cl f fst caps args p vs b hw hd ho hc hf hv hp hco hpure hb hM=>rw[h]at ho;cases ho
 |conv sr ds x b hw hd ho Xd hp hM=>rw[h]at ho;cases ho
 |fcall cl f caps args hcs o1 o2 res fx hw hd ho hc hf hv hco hfun hsub hnew hnm hcl hclr hW hN hM=>rw[h]at ho;cases ho
theorem rJ (hf:gf E s o=some f) (hr:f.wr=true) {u:Bj} (hu:hs E s.o (ev s) o.op=some u):
 ∃ l new,s.o f.id=some (.box l)/\new.length=f.len/\u=⟨f.off+f.len<=l.length,f.id, .box (bj l f.off new)⟩ /\
  ∀(o':av) (e':Ev) (l':List HV),o' f.id=some (.box l')->(∀y∈o.op.operands,e' y=ev s y)->hs E o' e' o.op=some ⟨f.off+f.len<=l'.length,f.id, .box (bj l' f.off new)⟩:=by
 have hops:∃t x v,o.op=.store t x v:=by
  rcases CB hf with⟨h,_⟩|⟨_,h⟩
  .grind
  exact h
 obtain⟨t,ad,v,h⟩:=hops;unfold gf at hf;rw[h]at hf hu ⊢;dsimp only at hf;split at hf<;>try(cases hf;done)
 rename_i i id off hE he;simp only[Bb]at hf;subst hf;simp only[hs,mf,hE,he]at hu
 cases hv:ev s v with
 |none=>rw[hv]at hu;cases hu
 | some rv =>
  cases rv with
  |tup l=>rw[hv]at hu;cases hu
  | v cc =>
   rw[hv]at hu;dsimp only at hu
   cases hob:s.o id with
   |none=>rw[hob]at hu;cases hu
   | some ob =>
    cases ob with
    |mp kk' n' f'=>rw[hob]at hu;cases hu
    |bld fr' T' e' l'=>rw[hob]at hu;cases hu
    |ex d' v' b' x'=>rw[hob]at hu;cases hu
    |bun B'=>rw[hob]at hu;cases hu
    |opq s' e' n' R'=>rw[hob]at hu;cases hu
    |nest e' et' es' n' m' g' pd'=>rw[hob]at hu;cases hu
    |arr wr' s' e' n' f'=>rw[hob]at hu;cases hu
    |arrh s' e' n' ms' f'=>rw[hob]at hu;cases hu
    | box l =>
     rw[hob]at hu;dsimp only at hu;split at hu<;>try(cases hu;done)
     rename_i hlen;simp only[Bb]at hu;subst hu;refine⟨l,cc.cells,rfl,Ga hlen,rfl,λo' e' l' ho' he'=>?_⟩;simp only[Op.operands]at he';simp only[hs,mf,hE]
     grind
def aX {g g':Nat->HV}:∀(n i:Nat),(∀j,i<=j->j<i+n->g j=g' j)->nq g n i=nq g' n i
 |0,_,_=>rfl
 | n+1,i,h=>by
  simp only[nq];rw[h i (Yb _) Za,aX n (i+1) λj h1 h2=>h j Za Za]
variable {l:List HV}
theorem VQ {ex:Bool} (hf:gf E s o=some f) (hr:f.wr=false) {l':List HV} {o':av} {e':Ev} (hl:s.o f.id=some (.box l)) (hl':o' f.id=some (.box l')) (hlen:l'.length=l.length) (hj:∀j,f.off<=j->j<f.off+f.len->l'[j]? = l[j]?) (he':∀y∈o.op.operands,e' y=ev s y):hq E ex o' e' o.op=hq E ex s.o (ev s) o.op:=by
 have hops:(∃t x,o.op=.load t x)\/(∃x,o.op=.nilCheck x)\/(∃t x k,o.op=.fieldAddr t x k)\/(∃x,o.op=.move x)\/∃x,o.op=.assign x:=by
  rcases CB hf with⟨_,h⟩|⟨h,_⟩
  .exact h
  grind
 unfold gf at hf
 rcases hops with⟨t,x,h⟩|⟨x,h⟩|⟨t,x,k,h⟩|⟨x,h⟩|⟨x,h⟩
 .rw [h]at hf he' ⊢
  dsimp only at hf;split at hf<;>try(cases hf;done)
  rename_i i id off hE he;simp only[Bb]at hf;subst hf;simp only[Op.operands]at he';simp only[hq,nx,hE];rw[he' x Ec,he];dsimp only at hl hl' hj ⊢;simp only[Sk,hl,hl']
  have hg:∀j,j<i.size->l'.getD (off+j) (.p .any)=l.getD (off+j) (.p .any):=λj hjl=>by
   grind
  cases i.k.isAgg with
  | true =>
   dsimp only;rw[hlen,aX i.size 0 λj _ h2=>hg j Za]
  | false =>
   grind
 .rw [h]at hf he' ⊢
  dsimp only at hf;split at hf<;>try(cases hf;done)
  rename_i id off he;simp only[Bb]at hf;subst hf;simp only[Op.operands]at he';simp only[hq,ta];rw[he' x Ec,he];dsimp only at hl hl' ⊢;simp only[Sk,hl,hl']
 .rw [h]at hf he' ⊢
  dsimp only at hf;split at hf<;>try(cases hf;done)
  rename_i id off he;simp only[Bb]at hf;subst hf;simp only[Op.operands]at he';simp only[hq,gl];rw[he' x Ec,he];dsimp only at hl hl' ⊢;simp only[Sk,hl,hl']
  grind
 .rw [h]at he' ⊢
  simp only[Op.operands]at he';simp only[hq]
  grind
 rw[h]at he' ⊢;simp only[Op.operands]at he';simp only[hq]
 grind
variable {new:List HV}{off:Nat}
def o5(h:off+new.length<=l.length):(bj l off new).length=l.length:=AK l new off h
def uj(k:Nat)(h:off+new.length<=l.length):(bj l off new)[k]? = if off<=k/\k<off+new.length then new[k-off]? else l[k]?:=dt l new off k h
theorem ax5 {a b:List HV} {i j:Nat} (ha:i+a.length<=l.length) (hb:j+b.length<=l.length) (hd:i+a.length<=j\/j+b.length<=i):bj (bj l i a) j b=bj (bj l j b) i a:=by
 apply No;intro k;rw[uj k (by rw[o5 ha];exact hb),uj k ha,uj k (by rw[o5 hb];exact ha),uj k hb]
 grind
def xF(h:k∈jp (bj l off new)):k∈jp l\/k∈jp new:=by
 obtain⟨x,hx,hk⟩:=Pf h;unfold bj at hx
 rcases Af.1 hx with hx|hx
 .rcases Af.1 hx with hx|hx
  .exact .inl (ol ⟨x,List.mem_of_mem_take hx,hk⟩)
  exact .inr (ol ⟨x,hx,hk⟩)
 exact .inl (ol ⟨x,List.mem_of_mem_drop hx,hk⟩)
def DQ (h:k∈jp new):k∈jp (bj l off new):=by
 obtain⟨x,hx,hk⟩:=Pf h;exact ol ⟨x,Ig _ (Bh _ hx),hk⟩
def Of {d':Option Tmp}{x':Option HR}{wr' wr1 wr1':Wr}(hd:∀k,d=some k->d'≠some k)(ho:∀k,((s.after d x wr).after d' x' wr').o k=((s.after d' x' wr1').after d x wr1).o k):
 (s.after d x wr).after d' x' wr'=(s.after d' x' wr1').after d x wr1:=by
 have ht:∀k,((s.after d x wr).after d' x' wr').t k=((s.after d' x' wr1').after d x wr1).t k:=by
  intro k;by_cases h1:d=some k
  .have h2:=hd k h1
   subst h1;rw[gc h2];have e1:(s.after (some k) x wr).t k=x:=by unfold S.after S.putD;simp[S.put]
   have e2:((s.after d' x' wr1').after (some k) x wr1).t k=x:=by unfold S.after S.putD;simp[S.put]
   rw[e1,e2]
  by_cases h2:d'=some k
  .subst h2
   rw[gc (s:=s.after (some k) x' wr1') h1];have e1:((s.after d x wr).after (some k) x' wr').t k=x':=by unfold S.after S.putD;simp[S.put]
   have e2:(s.after (some k) x' wr1').t k=x':=by unfold S.after S.putD;simp[S.put]
   rw[e1,e2]
  rw[gc h2,gc h1,gc h1,gc h2]
 cases h1:(s.after d x wr).after d' x' wr' with
 | mk t1 o1 =>
  cases h2:(s.after d' x' wr1').after d x wr1 with
  | mk t2 o2 =>
   rw[h1,h2]at ht ho;have:t1=t2:=funext ht;have:o1=o2:=funext ho;simp_all
def ud {id:Nat} {ob:a8}:(s.after d x [(id,some ob)]).o=λk=>if k=id then some ob else s.o k:=by
 funext k;rw[rt];simp only[jb];by_cases h:k=id
 .subst h;simp
 have:Nat.beq id k=false:=by rw[Ie];exactλhb=>h (Vi hb).symm
 simp[this,h]
def x8:(s.after d x []).o=s.o:=by
 funext k;exact tJ λq hq=>by cases hq
theorem SW {s':S} {id:Nat} {ob ob':a8} (hd:∀k,d=some k->s'.t k=s.t k) {l':List HV} (hl':s'.o id=some (.box l')) (hk:k∈d8 s' d [(id,some ob')]):
 k∈d8 s d [(id,some ob)]\/k∈jp l':=by
 unfold d8 at hk ⊢
 rcases Af.1 hk with hk|hk
 .grind
 simp only[yo,hl',a8.ids,Mg]at hk;exact .inr hk
def IZ{sf:S}{x y:Tr}{ox oy:Oper}(h:nf P E nt ops (x::y::T) s sf)(hx0:ops[x.i]? = some ox)(hy0:ops[y.i]? = some oy)(hp:DI ops ox oy x y=true):nf P E nt ops (y::x::T) s sf:=by
 cases h with
 | @cons ix anx Rx Ox Fx ox1 _ _ vx wx _ hix hex hRx hOx hFx h =>
 cases h with
 | @cons iy any Ry Oy Fy oy1 _ _ vy wy _ hiy hey hRy hOy hFy h =>
 obtain rfl:ox=ox1:=by have:=hx0.symm.trans hix;simpa using this
 obtain rfl:oy=oy1:=by have:=hy0.symm.trans hiy;simpa using this
 unfold DI at hp;dsimp only at hp
 cases Fx with
 |none=>cases hp
 |some f =>
 cases Fy with
 |none=>cases hp
 |some g =>
 simp only[Od]at hp;obtain⟨⟨⟨⟨⟨Ei,hid⟩,hdis⟩,hNx⟩,hNy⟩,hm⟩:=hp;have hid:f.id=g.id:=Vi hid
 have hdis:f.off+f.len<=g.off\/g.off+g.len<=f.off:=by
  rcases(Kj _ _▸hdis:_\/_)with h'|h'
  .exact .inl (Re h')
  exact .inr (Re h')
 have hNx:anx.N=[]:=by simpa using hNx
 have hNy:any.N=[]:=by simpa using hNy
 obtain⟨a1,a2,a3⟩:=Oper.apart_spec Ei;obtain⟨fx1,fx2⟩:=hFx f rfl;obtain⟨fy1,fy2⟩:=hFy g rfl;have eyx:∀{d wr},(∀k,d=some k->ox.dst=some k)->∀z∈oy.op.operands,ev (s.after d vx wr) z=ev s z:=λhd z hz=>lF λk hk=>t8 (a1 k (hd k hk)) z hz;have exy:∀{v wr},∀z∈ox.op.operands,ev (s.after oy.dst v wr) z=ev s z:=λz hz=>lF λk hk=>t8 (a3 k hk) z hz;have eyx':∀z∈oy.op.operands,ev (s.after ox.dst vx wx) z=ev s z:=eyx λk hk=>hk;have gy:b6 ops (s.after ox.dst vx wx) oy=b6 ops s oy:=vi a1;have gx:∀{v wr},b6 ops (s.after oy.dst v wr) ox=b6 ops s ox:=vi a3;have fyS:gf E s oy=some g:=(w6 eyx').symm.trans fy1;have fyW:b6 ops s oy=some true:=gy.symm.trans fy2
 have notcall:∀{st:S} {o:Oper} {q:ZA},gf E st o=some q->Bx o=false:=λ{st o q} hq=>by
  unfold Bx
  rcases CB hq with⟨_,⟨t,x,h'⟩|⟨x,h'⟩|⟨t,x,k,h'⟩|⟨x,h'⟩|⟨x,h'⟩⟩|⟨_,t,x,v,h'⟩<;>rw[h']
 have lky:looks s oy=Ry:=by
  rw[<- hRy];unfold looks
  cases xp oy with
  |true=>rfl
  |false =>
  rw[notcall fyS];exact(sx λz hz=>eyx' z (by simpa using hz)).symm
 have lkx:∀{v wr},looks (s.after oy.dst v wr) ox=Rx:=λ{v wr}=>by
  rw[<- hRx];unfold looks
  cases xp ox with
  |true=>rfl
  |false =>
  rw[notcall fx1];exact sx λz hz=>exy z (by simpa using hz)
 have tdy:∀k,oy.dst=some k->(s.after ox.dst vx wx).t k=s.t k:=λk hk=>gc λe=>a2 k e hk;have tdx:∀{v wr} k,ox.dst=some k->(s.after oy.dst v wr).t k=s.t k:=λk hk=>gc (a2 k hk)
 have fxS:∀{v wr},∀q,some f=some q->gf E (s.after oy.dst v wr) ox=some q/\b6 ops (s.after oy.dst v wr) ox=some true:=λq hq=>by
  rw[<- hq];exact⟨(w6 exy).trans fx1,gx.trans fx2⟩
 have fyS':∀q,some g=some q->gf E s oy=some q/\b6 ops s oy=some true:=λq hq=>by
  rw[<- hq];exact⟨fyS,fyW⟩
 cases hfw:f.wr with
 | false =>
  cases hgw:g.wr with
  |false=>rw[hfw,hgw]at hm;cases hm
  | true =>
   obtain⟨out,rfl,rfl,hq1,hpre,hdx,hMx⟩:=eU hex fx1 fx2 hfw;obtain⟨u,rfl,rfl,hu,hup,hWy,hMy,hdy⟩:=DK hey fy1 fy2 hgw;rw[x8]at hu
   have hu':hs E s.o (ev s) oy.op=some u:=by
    rw[<- hu];exact(WS eyx' (λ_ _=>rfl)).symm
   obtain⟨l,new,hl,hnl,rfl,_⟩:=rJ fyS hgw hu';dsimp only at hup hMy hWy h ⊢;have hlx:s.o f.id=some (.box l):=by rw[hid];exact hl
   have hxq:hq E anx.ex (s.after oy.dst none [(g.id,some (a8.box (bj l g.off new)))]).o (ev (s.after oy.dst none [(g.id,some (a8.box (bj l g.off new)))])) ox.op=some out:=by
    rw[<- hq1];refine VQ (l':=bj l g.off new) fx1 hfw hlx (by rw[ud,hid];simp) (o5 Za) (λj h1 h2=>?_) exy;rw[uj j Za,Ca Za]
   rw[Of (wr1:=[]) (wr1':=[(g.id,some (a8.box (bj l g.off new)))]) a2 (λk=>by simp only[ud,x8])]at h;refine .cons hiy (.store _ fyW hdy hu' hup hWy hMy) lky (λk hk=>hOy k ?_) fyS' (.cons hix (.quiet out (gx.trans fx2) hdx hxq hpre hMx) lkx (λk hk=>hOx k ?_) fxS h)
   .unfold d8 at hk ⊢
    rcases Af.1 hk with hk|hk
    .refine Ig _ ?_
     cases hd:oy.dst with
     |none=>rw[hd]at hk;exact hk
     |some j=>rw[hd]at hk;dsimp only at hk ⊢;rw[tdy j hd];exact hk
    refine Bh _ ?_;simp only[yo,x8]at hk ⊢;exact hk
   unfold d8 at hk ⊢
   rcases Af.1 hk with hk|hk
   .refine Ig _ ?_
    cases hd:ox.dst with
    |none=>rw[hd]at hk;exact hk
    |some j=>rw[hd]at hk;dsimp only at hk ⊢;rw[tdx j hd]at hk;exact hk
   cases hk
 | true =>
  obtain⟨u,rfl,rfl,hu,hup,hWx,hMx,hdx⟩:=DK hex fx1 fx2 hfw;obtain⟨l,new,hl,hnl,rfl,hsx⟩:=rJ fx1 hfw hu;dsimp only at hup hMx hWx h hOx hOy hFy hey gy eyx' tdy fy1 fy2 ⊢;have hly:s.o g.id=some (.box l):=by rw[<- hid];exact hl
  have hlx1:(s.after ox.dst none [(f.id,some (a8.box (bj l f.off new)))]).o g.id=some (.box (bj l f.off new)):=by rw[ud,<- hid];simp
  cases hgw:g.wr with
  | false =>
   obtain⟨out,rfl,rfl,hq1,hpre,hdy,hMy⟩:=eU hey fy1 fy2 hgw
   have hyq:hq E any.ex s.o (ev s) oy.op=some out:=by
    rw[<- hq1];refine(VQ fyS hgw hly hlx1 (o5 Za) (λj h1 h2=>?_) eyx').symm;rw[uj j Za,Ca Za]
   have hxs:hs E (s.after oy.dst (some out.val) []).o (ev (s.after oy.dst (some out.val) [])) ox.op=some ⟨f.off+f.len<=l.length,f.id, .box (bj l f.off new)⟩:=hsx _ _ l (by rw[x8];exact hl) exy;rw[Of (wr1:=[(f.id,some (a8.box (bj l f.off new)))]) (wr1':=[]) a2 (λk=>by simp only[ud,x8])]at h;refine .cons hiy (.quiet out fyW hdy hyq hpre hMy) lky (λk hk=>hOy k ?_) fyS' (.cons hix (.store _ (gx.trans fx2) hdx hxs hup hWx hMx) lkx (λk hk=>hOx k ?_) fxS h)
   .unfold d8 at hk ⊢
    rcases Af.1 hk with hk|hk
    .refine Ig _ ?_
     cases hd:oy.dst with
     |none=>rw[hd]at hk;exact hk
     |some j=>rw[hd]at hk;dsimp only at hk ⊢;rw[tdy j hd];exact hk
    cases hk
   unfold d8 at hk ⊢
   rcases Af.1 hk with hk|hk
   .refine Ig _ ?_
    cases hd:ox.dst with
    |none=>rw[hd]at hk;exact hk
    |some j=>rw[hd]at hk;dsimp only at hk ⊢;rw[tdx j hd]at hk;exact hk
   refine Bh _ ?_;simp only[yo,x8]at hk ⊢;exact hk
  | true =>
   rw[hfw,hgw]at hm;simp only[Od]at hm;obtain⟨⟨⟨⟨⟨m1,m2⟩,m3⟩,m4⟩,m5⟩,m6⟩:=hm;have m1:=up m1;have m2:=up m2;have m3:=up m3;have m4:=up m4;have m5:=up m5;have m6:=up m6;obtain⟨u,rfl,rfl,hu2,hup2,hWy,hMy,hdy⟩:=DK hey fy1 fy2 hgw;obtain⟨l2,new2,hl2,hnl2,rfl,hsy⟩:=rJ fy1 hgw hu2;dsimp only at hup2 hMy hWy h hOy ⊢;obtain rfl:l2=bj l f.off new:=by rw[hlx1]at hl2;simpa using hl2.symm
   have hlen1:(bj l f.off new).length=l.length:=o5 Za;rw[hlen1]at hup2;have hys:hs E s.o (ev s) oy.op=some ⟨g.off+g.len<=l.length,g.id, .box (bj l g.off new2)⟩:=hsy s.o (ev s) l hly (λz hz=>(eyx' z hz).symm)
   have hxs:hs E (s.after oy.dst none [(g.id,some (a8.box (bj l g.off new2)))]).o (ev (s.after oy.dst none [(g.id,some (a8.box (bj l g.off new2)))])) ox.op=some ⟨f.off+f.len<=(bj l g.off new2).length,f.id, .box (bj (bj l g.off new2) f.off new)⟩ :=
    hsx _ _ _ (by rw[ud,hid];simp) exy
   have hlO:∀k∈jp l,k∈Ox:=λk hk=>hOx k (by
    unfold d8;refine Bh _ ?_;simp only[yo,hl,a8.ids,Mg]
    exact hk)
   have hn1:∀k∈jp new,k∈anx.M:=λk hk=>hMx k (DQ hk);have hn2:∀k∈jp new2,k∈any.M:=λk hk=>hMy k (DQ hk)
   rw [Of (wr1:=[(f.id,some (a8.box (bj (bj l g.off new2) f.off new)))]) (wr1':=[(g.id,some (a8.box (bj l g.off new2)))]) a2 (λk=>by
    simp only[ud,hid];by_cases hk:k=g.id
    .simp only [hk,Ma]
     rw[ax5 Za Za Za]
    simp only[hk,Na])]at h
   refine .cons hiy (.store _ fyW hdy hys hup2 hWy (λk hk=>?_)) lky (λk hk=>?_) fyS' (.cons hix (.store _ (gx.trans fx2) hdx hxs (by dsimp only;rw[o5 Za];exact hup) hWx (λk hk=>?_)) lkx (λk hk=>?_) fxS h)
   .rcases xF hk with hk|hk
    .exact m1 k (hlO k hk)
    exact hn2 k hk
   .rcases SW (s:=s.after ox.dst none [(f.id,some (a8.box (bj l f.off new)))]) (s':=s) (ob:=a8.box (bj (bj l f.off new) g.off new2)) (λk hk=>(tdy k hk).symm) hly hk with hk|hk
    .exact hOy k hk
    exact m4 k (hlO k hk)
   .rcases xF hk with hk|hk
    .rcases xF hk with hk|hk
     .exact m2 k (hlO k hk)
     exact m3 k (hn2 k hk)
    exact hn1 k hk
   rcases SW (s:=s) (s':=s.after oy.dst none [(g.id,some (a8.box (bj l g.off new2)))]) (ob:=a8.box (bj l f.off new)) (l':=bj l g.off new2) (λk hk=>tdx k hk) (by rw[ud,hid];simp) hk with hk|hk
   .exact hOx k hk
   rcases xF hk with hk|hk
   .exact hlO k hk
   exact m5 k (hn2 k hk)
def swap{sf:S}{x y:Tr}(h:nf P E nt ops (x::y::T) s sf)(hp:wA ops x y=true):nf P E nt ops (y::x::T) s sf:=by
 unfold wA at hp;split at hp
 .rename_i ox oy h1 h2
  rcases(Kj _ _▸hp:_\/_)with hp|hp
  .exact TZ h h1 h2 hp
  exact IZ h h1 h2 hp
 cases hp
def kU {sf:S} {y:Tr}:∀{pre:List Tr} {s:S},nf P E nt ops (pre++y::T) s sf->(∀x∈pre,wA ops x y=true)->nf P E nt ops (y::(pre++T)) s sf
 | [],_,h,_=>h
 | x::pre,s,h,hp=>by
  rw[Ql]at h;have hx:=hp x Ec
  cases h with
  |cons hi he hR hO hF hT =>
  have:=kU hT λz hz=>hp z (by simp[hz]);exact swap (.cons hi he hR hO hF this) hx
end
end
end
end Go.Hx

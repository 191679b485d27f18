/- A part of the proof: Hx10 Hx11. -/
import Derived.Laws.IdiomStrings
import Derived.OrdersIn
import Derived.RangeFuncCalls
import Derived.RangeFuncNested
import Derived.Test.YtnlcekpflogjkaaGreatDoorTy08
set_option linter.all false
namespace Go.Hx
section
open Go.RowKit
def a6 (P:Program) (f:FuncId) (args:List PC) (res:PR):Prop :=
 ∀ (w:World) (imm:Imm) (us:List Value),vq imm->(∀b ob,imm b=some ob->w.heap[b]? = some ob)->d8 imm args us ->
  Calls P f us.toArray w fun e w'=>∃v imm',e=.returned v/\tl imm' res v/\(∀b,b<w.heap.size->imm' b=imm b)/\(∀b ob,imm' b=some ob->w'.heap[b]? = some ob)/\Below w.heap.size w w'
def a4k (o:au):HV->Option (Prop×PV×Bool)
 | .p x=>some (True,x,false)
 | .ref id n =>
  match o id with
  |some (.arr _ s _ n' f)=>some (n'=n, .sl n s false f,true)
  |_=>none
 |_=>none
def yh (o:au):List HV->Option (Prop×List PV×Bool)
 | []=>some (True,[],false)
 | x::r =>
  match a4k o x,yh o r with
  |some (p,y,b),some (q,ys,b')=>some (p/\q,y::ys,b||b')
  |_,_=>none
def a9r(o:au):HV->Option (Prop×PV×Bool)
 | .ptr id off =>
  match o id with
  | some (.box l) =>
   match yh o (l.drop off) with
   |some (p,ys,_)=>some (p, .vp ys.length fun j=>ys.getD j .any,true)
   |none=>none
  |_=>none
 |h=>a4k o h
def a1b (o:au):HC->Option (Prop×PC×Bool)
 | .one h=>match a9r o h with|some (p,y,b)=>some (p, .one y,b)|none=>none
 | .agg l=>match yh o l with|some (p,ys,b)=>some (p, .agg ys,b)|none=>none
def ll (o:au) (e:Ev):List Operand->Option (Prop×List PC×Bool)
 | []=>some (True,[],false)
 | x::r =>
  match e x,ll o e r with
  |some (.v cc),some (q,ys,b')=>match a1b o cc with|some (p,y,b)=>some (p/\q,y::ys,b||b')|none=>none
  |_,_=>none
def gq (caps:Nat->PV):Nat->Nat->List PC
 |0,_=>[]
 |n+1,i=>.one (caps i)::gq caps n (i+1)
def PV.flat:PV->Bool
 | .raw _=>true
 | .any=>true
 |_=>false
def al4:List PV->Bool
 | []=>true
 |x::r=>x.flat&&al4 r
def PC.flat:PC->Bool
 | .one x=>x.flat
 | .agg l=>al4 l
def aew:List PC->Bool
 | []=>true
 |x::r=>x.flat&&aew r
def PR.flat:PR->Bool
 | .v x=>x.flat
 | .tup l=>aew l
section
variable {m m':Imm}
def aq.flat {x:PV} {u:Value} (hf:x.flat=true) (h:aq m x u):aq m' x u:=by
 cases x<;>simp[PV.flat]at hf<;>exact h
def fl.flat:∀{xs:List PV} {us:List Value},al4 xs=true->fl m xs us->fl m' xs us
 | [],[],_,_=>trivial
 | _::_,_::_,hf,h=>by
  simp only[al4,bt5]at hf;exact⟨h.1.flat hf.1,fl.flat hf.2 h.2⟩
 | [],_::_,_,h=>h.elim
 |_::_,[],_,h=>h.elim
def lq.flat {x:PC} {u:Value} (hf:x.flat=true) (h:lq m x u):lq m' x u:=by
 cases x with
 |one x=>exact aq.flat hf h
 |agg l=>obtain⟨us,e,hl⟩:=h;exact⟨us,e,hl.flat hf⟩
def d8.flat:∀{xs:List PC} {us:List Value},aew xs=true->d8 m xs us->d8 m' xs us
 | [],[],_,_=>trivial
 | _::_,_::_,hf,h=>by
  simp only[aew,bt5]at hf;exact⟨h.1.flat hf.1,d8.flat hf.2 h.2⟩
 | [],_::_,_,h=>h.elim
 |_::_,[],_,h=>h.elim
def tl.flat {x:PR} {u:Value} (hf:x.flat=true) (h:tl m x u):tl m' x u:=by
 cases x with
 |v x=>exact lq.flat hf h
 |tup l=>obtain⟨us,e,hl⟩:=h;exact⟨us,e,hl.flat hf⟩
def fw(w:World):Imm:=fun b=>w.heap[b]?
end
section
variable {P:Program}{E:Env}{w0:World}{nt:Nat}{c:Ctx}{s:S}{a:Act}{w:World}
structure a0u (w0:World) (c:Ctx) (w:World) (m:Imm):Prop where
 le:Imm.le c.imm m
 new:∀b,c.frm b=none->b<w.heap.size->m b=w.heap[b]?
def yu(h:ah w0 nt c s a w):Imm.le c.imm (fw w):=fun b ob hb=>h.imm b ob hb
def b71(h:ah w0 nt c s a w):a0u w0 c w (fw w):=⟨yu h,fun _ _ _=>rfl⟩
section
variable {m:Imm}
theorem aao (hm:a0u w0 c w m) {b off:Nat} {x:Value} (hb:c.frm b=none) (hc:w.cell? ⟨b,off,none⟩=some x):j2 m b off=some x:=by
 have hlt:=World.block_lt_of_cell? w _ hc;unfold World.cell? at hc;unfold j2;rw[hm.new b hb hlt]
 grind
def aas(h:ah w0 nt c s a w)(hm:a0u w0 c w m){x:HV}{u:Value}(hu:bj c s.o x u){p:Prop}{y:PV}{b:Bool}(hv:a4k s.o x=some (p,y,b))(hp:p):
 aq m y u/\(b=false->aq c.imm y u):=by
 unfold a4k at hv;split at hv
 · simp only [bst,bt2]at hv
   obtain⟨_,rfl,rfl⟩:=hv;exact⟨aq.mono hm.le hu,fun _=>hu⟩
 · rename_i id n
   split at hv<;>try(cases hv;done)
   rename_i wr sz e n' f ho;simp only[bst,bt2]at hv;obtain⟨rfl,rfl,rfl⟩:=hv;obtain rfl:n'=n:=hp;refine⟨?_,fun hb=>by cases hb⟩;obtain⟨_,_,h3⟩:=hu;have hown:=(h3 _ _ _ _ ho rfl).2 rfl;obtain⟨h0,h1,h5⟩:=h.objs id _ ho
   rcases h5 with⟨h6,xs,h2,h4⟩|⟨h6,h7,h8⟩
   · rcases h2.2 with⟨hv,hz⟩|⟨g,cap,cur,hv,hbase,hheap,hcap,hmax,hcs,htake⟩
     · exact⟨none,0,by rw[hown,hv,hz],by omega,by simp[maxLen],(fun hh=>by cases hh),fun hn=>by omega⟩
     refine⟨_,cap,by rw[hown,hv],hcap,hmax,(fun hh=>by cases hh),fun hn=>⟨g,0,rfl,fun i j hi hj=>?_⟩⟩;obtain⟨x,hx,hr⟩:=h4 i j hi hj;have:=h2.cells (g:=g) (by rw[hv];rfl) _ _ hx;rw[dm]at this;exact⟨x,aao hm (h.fsep id _ g ho (by rw[h6,hv];rfl)) this,aq.mono hm.le hr⟩
   obtain⟨ad,cap,q1,q2,q3,q4,q5⟩:=aq.mono hm.le h8;rw[hown];exact⟨ad,cap,q1,q2,q3,(fun hh=>by cases hh),q5⟩
 cases hv
def a21(h:ah w0 nt c s a w)(hm:a0u w0 c w m):∀{xs:List HV} {us:List Value} (_:bf c s.o xs us) {p:Prop} {ys:List PV} {b:Bool} (_:yh s.o xs=some (p,ys,b)) (_:p),
 fl m ys us/\(b=false->fl c.imm ys us)
 | [],[],_,p,ys,b,hv,_=>by
  simp only[yh,bst,bt2]at hv;obtain⟨_,rfl,_⟩:=hv;exact⟨trivial,fun _=>trivial⟩
 | x :: xs,u::us,hu,p,ys,b,hv,hp=>by
  simp only[yh]at hv;split at hv<;>try(cases hv;done)
  rename_i p1 y1 b1 p2 ys2 b2 h1 h2;simp only[bst,bt2]at hv;obtain⟨rfl,rfl,rfl⟩:=hv;obtain⟨q1,q2⟩:=aas h hm hu.1 h1 hp.1;obtain⟨q3,q4⟩:=a21 h hm hu.2 h2 hp.2
  exact ⟨⟨q1,q3⟩,fun hb=>by
   rw[Bool.or_eq_false_iff]at hb
   exact⟨q2 hb.1,q4 hb.2⟩⟩
 | [],_::_,hu,_,_,_,_,_=>hu.elim
 |_::_,[],hu,_,_,_,_,_=>hu.elim
theorem as9 (h:ah w0 nt c s a w) (hm:a0u w0 c w m) {x:HV} {u:Value} (hu:bj c s.o x u) {p:Prop} {y:PV} {b:Bool} (hv:a9r s.o x=some (p,y,b)) (hp:p):
 aq m y u/\(b=false->aq c.imm y u):=by
 unfold a9r at hv;split at hv
 · rename_i id off
   split at hv<;>try(cases hv;done)
   rename_i l hl;split at hv<;>try(cases hv;done)
   rename_i q ys bb hvl;simp only[bst,bt2]at hv;obtain⟨rfl,rfl,rfl⟩:=hv;refine⟨?_,fun hb=>by cases hb⟩;obtain⟨_,_,h3⟩:=hu;obtain⟨bk,hb,rfl⟩:=h3 l hl;obtain⟨b',C,e,h1,hblk,h2,h4,h5⟩:=h.objs id _ hl;rw[hb]at h1;simp only[Value.pointer.injEq,bst,Addr.mk.injEq,and_true]at h1;subst h1;obtain⟨q1,_⟩:=a21 h hm (h5.drop off) hvl hp;refine⟨bk,off,rfl,fun j hj=>?_⟩;obtain⟨v,hv,hr⟩:=q1.get j ys[j] (bsu hj);refine⟨v,aao hm (h.fsep id _ bk hl (by rw[hblk];rfl)) ?_,by simpa [List.getD,bsu hj]using hr⟩;rw[cell_of_row w bk (off+j) C e (0,0) h4]
   grind
 exact aas h hm hu hv hp
def aat(h:ah w0 nt c s a w)(hm:a0u w0 c w m){x:HC}{u:Value}(hu:fu c s.o x u){p:Prop}{y:PC}{b:Bool}(hv:a1b s.o x=some (p,y,b))(hp:p):
 lq m y u/\(b=false->lq c.imm y u):=by
 unfold a1b at hv;split at hv
 · split at hv<;>try(cases hv;done)
   rename_i hvp;simp only[bst,bt2]at hv;obtain⟨rfl,rfl,rfl⟩:=hv;exact as9 h hm hu hvp hp
 split at hv<;>try(cases hv;done)
 rename_i hvl;simp only[bst,bt2]at hv;obtain⟨rfl,rfl,rfl⟩:=hv;obtain⟨us,rfl,hl⟩:=hu;obtain⟨q1,q2⟩:=a21 h hm hl hvl hp;exact⟨⟨us,rfl,q1⟩,fun hb=>⟨us,rfl,q2 hb⟩⟩
def a3u(h:ah w0 nt c s a w)(hm:a0u w0 c w m):∀{xs:List Operand} {p:Prop} {ys:List PC} {b:Bool} (_:ll s.o (ev s) xs=some (p,ys,b)) (_:p),
 d8 m ys (xs.map a.eval)/\(b=false->d8 c.imm ys (xs.map a.eval))
 | [],p,ys,b,hv,_=>by
  simp only[ll,bst,bt2]at hv;obtain⟨_,rfl,_⟩:=hv;exact⟨trivial,fun _=>trivial⟩
 | x :: xs,p,ys,b,hv,hp=>by
  simp only[ll]at hv;split at hv<;>try(cases hv;done)
  rename_i cc q ys2 b2 hx h2;split at hv<;>try(cases hv;done)
  rename_i p1 y1 b1 h1;simp only[bst,bt2]at hv;obtain⟨rfl,rfl,rfl⟩:=hv;obtain⟨q1,q2⟩:=aat h hm (af h hx) h1 hp.1;obtain⟨q3,q4⟩:=a3u h hm h2 hp.2
  exact ⟨⟨q1,q3⟩,fun hb=>by
   rw[Bool.or_eq_false_iff]at hb
   exact⟨q2 hb.1,q4 hb.2⟩⟩
def a09 {caps:Nat->PV}:∀(n i:Nat) (cs:List Value),cs.length=i+n->(∀j,j<i+n->∃x,cs[j]? = some x/\aq m (caps j) x)->d8 m (gq caps n i) (cs.drop i)
 | 0,i,cs,hl,_=>by
  rw[bvw bww];trivial
 | n+1,i,cs,hl,h=>by
  rw[bva bww];obtain⟨x,hx,hr⟩:=h i bww;rw[bsu bww]at hx;simp only[bst]at hx;subst hx;exact⟨hr,a09 n (i+1) cs bww fun j hj=>h j bww⟩
def d8.append:∀{xs ys:List PC} {us vs:List Value},d8 m xs us->d8 m ys vs->d8 m (xs++ys) (us++vs)
 | [],_,[],_,_,h=>h
 |_::_,_,_::_,_,h,k=>⟨h.1,d8.append h.2 k⟩
 | [],_,_::_,_,h,_=>h.elim
 |_::_,_,[],_,h,_=>h.elim
end
end
def HC.ids:HC->List Nat
 | .one h=>h.ids
 | .agg l=>ji l
def a4r:List HC->List Nat
 | []=>[]
 |x::r=>x.ids++a4r r
def HR.ids:HR->List Nat
 | .v x=>x.ids
 | .tup l=>a4r l
def a7.ids:a7->List Nat
 | .mp ..=>[]
 | .bld ..=>[]
 | .ex ..=>[]
 | .bun _=>[]
 | .opq ..=>[]
 | .box l=>ji l
 | .arr ..=>[]
 | .arrh _ _ _ ms _=>ms
 | .nest _ _ _ _ _ _ (some p)=>[p.1]
 | .nest _ _ _ _ _ _ none=>[]
theorem HC.men_ids {x:HC} {k:Nat} (h:x.men k):k∈x.ids:=by
 cases x with
 |one h'=>exact HV.men_ids h
 |agg l=>exact ot h
def ajc:∀{l:List HC} {k:Nat},(∃h∈l,h.men k)->k∈a4r l
 | [],_,⟨_,h,_⟩=>by cases h
 | x::r,k,⟨h,hm,hk⟩=>by
  rcases bt7.1 hm with rfl|hm
  · exact btg _ (HC.men_ids hk)
  exact btv _ (ajc ⟨h,hm,hk⟩)
theorem HR.men_ids {x:HR} {k:Nat} (h:x.men k):k∈x.ids:=by
 cases x with
 |v x=>exact HC.men_ids h
 |tup l=>exact ajc h
def a7.men_ids {x:a7} {k:Nat} (h:x.men k):k∈x.ids:=by
 cases x with
 |mp kk n f=>exact h.elim
 |bld fr T e l=>exact h.elim
 |ex d v b x=>exact h.elim
 |bun B=>exact h.elim
 |opq s e n R=>exact h.elim
 |box l=>exact ot h
 |arr wr s e n f=>exact h.elim
 |arrh s e n ms f=>exact h
 |nest e et es n m g pd=>cases pd with|none=>exact h.elim|some p=>exact bte.2 h
def dj (e:Ev):List Operand->List Nat
 | []=>[]
 |x::r=>(match e x with|some v=>v.ids|none=>[])++dj e r
structure Ann where
 id:Nat
 wb:Bool
 ex:Bool
 res:PR
 W:List Nat
 N:List Nat
 M:List Nat
def be (ops:Array Oper) (s:S) (o:Oper):Option Bool :=
 match o.guard with
 |none=>some true
 | some (j,want) =>
  match (ops[j]?).bind (·.dst) with
  |some d=>match s.t d with|some (.v (.one (.p (.raw (.bool b)))))=>some (b==want)|some (.tup [])=>some false|_=>none
  |none=>none
def d6 (nt:Nat):Option Tmp->Bool
 |none=>true
 |some d=>decide (d<nt)
def pvN (f:Nat->PV):Nat->Nat->List PV
 |0,_=>[]
 |n+1,i=>f i::pvN f n (i+1)
def ajt {m:Imm} {f:Nat->PV}:∀(n i:Nat) (cs:List Value),cs.length=i+n->(∀j,j<i+n->∃x,cs[j]? = some x/\aq m (f j) x)->fl m (pvN f n i) (cs.drop i)
 | 0,i,cs,hl,_=>by
  rw[bvw bww];trivial
 | n+1,i,cs,hl,h=>by
  obtain⟨x,hx,hr⟩:=h i bww;have hlt:i<cs.length:=by omega
  rw[bva hlt];rw[bsu hlt]at hx;simp only[bst]at hx;rw[hx];exact⟨hr,ajt n (i+1) cs bww fun j hj=>h j bww⟩
def callee (e:Ev) (cl:Call):Option (FuncId×List PC×List PC) :=
 match cl.callee with
 | .value f =>
  match e f with
  |some (.v (.one (.p (.fn g k caps))))=>some (g,[],gq caps k 0)
  |some (.v (.one (.p (.bnd g m fr))))=>some (g,[.agg (pvN fr m 0)],[])
  |_=>none
 |_=>none
def ain (caps:Nat->HV):Nat->Nat->List HC
 |0,_=>[]
 |n+1,i=>.one (caps i)::ain caps n (i+1)
def wn (e:Ev) (cl:Call):Option (FuncId×List HC) :=
 match cl.callee with
 | .value f =>
  match e f with
  |some (.v (.one (.p (.fn g k caps))))=>some (g,(gq caps k 0).map PC.toH)
  |some (.v (.one (.clo g k caps)))=>some (g,ain caps k 0)
  |_=>none
 |_=>none
def goodFn (P : Program) (f : FuncId) : Prop := ∃ fn, P.funcs[f]? = some fn /\ (fn.name == "runtime.NumGoroutine") = false /\ fn.body.isNone = false
theorem S.setW_one (s:S) (id:Nat) (ob:a7):s.setW [(id,some ob)]=s.setO id (some ob):=by
 unfold S.setW S.setO;simp only[S.mk.injEq,true_and];funext k;by_cases hk:k=id
 · subst hk;simp[j9]
 have:Nat.beq id k=false:=by
  rw[btb];exact fun hb=>hk (btw hb).symm
 simp[j9,this,hk]
theorem S.setW_none (s:S) (id:Nat):s.setW [(id,none)]=s.setO id none:=by
 unfold S.setW S.setO;simp only[S.mk.injEq,true_and];funext k;by_cases hk:k=id
 · subst hk;simp[j9]
 have:Nat.beq id k=false:=by
  rw[btb];exact fun hb=>hk (btw hb).symm
 simp[j9,this,hk]
def tc (e:Ev):List Operand->Option (List HC)
 | []=>some []
 | x::r =>
  match e x,tc e r with
  |some (.v cc),some l=>some (cc::l)
  |_,_=>none
def adj:List (Nat×a7)->List Nat
 | []=>[]
 |(_,x)::r=>x.ids++adj r
theorem anu (w:World) (o:Obj) {k:Nat} (h:k<w.heap.size):(w.drew.alloc o).heap[k]? = w.heap[k]?:=by
 show(w.heap.push o)[k]? = w.heap[k]?
 grind
def aw0(b:ByteArray):Nat->Nat->PV:=fun i _=>.raw (.int .u8 (ce b i))
def afq(E:Env)(e:Ev)(sr ds:TypeId)(x:Operand):Option ByteArray :=
 match E sr,E ds,e x with
 | some ti,some td,some (.v (.one (.p (.raw (.string b))))) =>
  match ti.k,td.k with
  | .string, .slice el =>
   match E el with
   |some ei=>match ei.k with | .int .u8=>some b|_=>none
   |none=>none
  |_,_=>none
 |_,_,_=>none
inductive Eff (P:Program) (E:Env) (nt:Nat) (ops:Array Oper) (o:Oper) (an:Ann) (s:S):Option HR->Wr->Prop where
 |cut (out:Out) (id:Nat) (hw:be ops s o=some true) (hd:d6 nt o.dst=true) (hq':yg E s.o (ev s) o.op=some (out,id)) (hp:out.pre) (hW:an.W=[id]):Eff P E nt ops o an s (some out.val) [(id,none)]
 |skip (hw:be ops s o=some false) (hd:d6 nt o.dst=true):Eff P E nt ops o an s (some (.tup [])) []
 |quiet (out:Out) (hw:be ops s o=some true) (hd:d6 nt o.dst=true) (hq':hq E an.ex s.o (ev s) o.op=some out) (hp:out.pre) (hM:out.val.ids=an.M):Eff P E nt ops o an s (some out.val) []
 | make (nw:New) (hw:be ops s o=some true) (hd:d6 nt o.dst=true) (hq':ha E (ev s) an.id o.op=some nw) (hp:nw.pre) (hm:NM s an.id) (hn:s.o an.id=none)
  (hW:an.W=[an.id]) (hN:an.N=[an.id]) (hM:nw.val.ids++nw.ob.ids=an.M):Eff P E nt ops o an s (some nw.val) [(an.id,some nw.ob)]
 |store (u:Upd) (hw:be ops s o=some true) (hd:d6 nt o.dst=true) (hq':hs E s.o (ev s) o.op=some u) (hp:u.pre) (hW:an.W=[u.id]) (hM:∀k∈u.ob.ids,k∈an.M):Eff P E nt ops o an s none [(u.id,some u.ob)]
 | app (u:App) (hw:be ops s o=some true) (hd:d6 nt o.dst=true) (hq':hap E s.o (ev s) an.id an.wb o.op=some u) (hp:u.pre) (hn:u.new=true->NM s an.id/\s.o an.id=none)
  (hW:an.W=[u.id]) (hN:u.new=true->an.N=[an.id]) (hM:u.val.ids++u.ob.ids=an.M):Eff P E nt ops o an s (some u.val) [(u.id,some u.ob)]
 | call (cl:Call) (f:FuncId) (fst caps args:List PC) (p:Prop) (vs:List PC) (b:Bool) (hw:be ops s o=some true) (hd:d6 nt o.dst=true) (ho:o.op=.call cl) (hc:callee (ev s) cl=some (f,fst,caps)) (hf:goodFn P f)
  (hv:ll s.o (ev s) cl.args.toList=some (p,vs,b)) (hp:p) (hco:CoL (fst++(vs++caps)) args) (hpure:a6 P f args an.res) (hb:(!b||an.res.flat)=true) (hM:an.M=[]):Eff P E nt ops o an s (some an.res.toH) []
 | conv (sr ds:TypeId) (x:Operand) (b:ByteArray) (hw:be ops s o=some true) (hd:d6 nt o.dst=true) (ho:o.op=.convert sr ds x) (hcv:afq E (ev s) sr ds x=some b) (hp:b.size<=maxLen) (hM:an.M=[]) :
  Eff P E nt ops o an s (some (.v (.one (.p (.sl b.size 1 false (aw0 b)))))) []
 | fcall (cl:Call) (f:FuncId) (caps:List HC) (args hcs:List HC) (o1 o2:List (Nat×a7)) (res:HR) (fx:List Nat) (hw:be ops s o=some true) (hd:d6 nt o.dst=true) (ho:o.op=.call cl) (hc:wn (ev s) cl=some (f,caps)) (hf:goodFn P f)
  (hv:tc (ev s) cl.args.toList=some hcs) (hco:v6 (hcs++caps) args) (hfun:d9 P f args o1 res o2 fx) (hsub:∀id ob,lk o1 id=some ob->∃ob',s.o id=some ob'/\CoO ob' ob)
  (hnew:∀id∈keys o2,id∉keys o1->s.o id=none) (hnm:∀id∈keys o2,id∉fx\/id∉keys o1->NMx s (keys o1++keys o2) id) (hcl:∀id ob,lk o2 id=some ob->∀k,ob.men k->k∈keys o2) (hclr:∀k,res.men k->k∈keys o2)
  (hW:an.W=keys o1++keys o2) (hN:∀id∈keys o2,id∉fx\/id∉keys o1->id∈an.N) (hM:an.M=res.ids++adj o2):Eff P E nt ops o an s (some res) (a08 o1 o2)
def an6:∀(l:List PV),ji (l.map .p)=[]
 | []=>rfl
 |_::r=>by simp[ji,HV.ids,an6 r]
def agd:∀(l:List PC),a4r (l.map PC.toH)=[]
 | []=>rfl
 | .one _::r=>by simp[a4r,HC.ids,PC.toH,HV.ids,agd r]
 | .agg l::r=>by simp[a4r,HC.ids,PC.toH,an6 l,agd r]
theorem PR.ids_toH (x:PR):x.toH.ids=[]:=by
 cases x with
 |v x=>cases x<;>simp[PR.toH,HR.ids,PC.toH,HC.ids,HV.ids,an6]
 |tup l=>simp[PR.toH,HR.ids,agd]
def S.after(s:S)(d:Option Tmp)(x:Option HR)(wr:Wr):S:=(s.setW wr).putD d x
def rf(ro:Option Nat):Fence:={ fn:=fun _=>True,depth:=none,alive:=false,round:=ro }
section
variable {P:Program}{ro:Option Nat}
def aw2{n:Nat}{f:FuncId}{args:Array Value}{w:World}{R:Ending->World->Prop}(h:Calls P f args w R):CallsIn (rf ro) n P f args w R:=(callsIn_wide (n:=n)).2 h
def ay5 {n:Nat} {row:String} {args:Array Value} {w:World} {R:Value->World->Prop} (h:Rows P row args w R):RowsIn (rf ro) n P row args w R:=fun c cs _=>by
 obtain⟨v,w',r,s⟩:=h c cs;exact⟨v,w',r,stepsIn_wide.2 s⟩
def a23{n:Nat}{o:Oper}{a:Act}{w:World}{K:Act->World->Prop}{Q:Exit->Act->World->Prop}(hnd:∀c,o.op≠.defer c)(h:o.wp P a w K Q):o.wpIn (rf ro) n P a w K Q:=by
 refine⟨fun _ _=>trivial, ?_⟩;rw[Oper.semAt_eq _ _ _ hnd];unfold Oper.wp at h;generalize (execOp a.eval o).run P w=r at *
 cases r with
 | ok x w' =>
  cases x<;>simp only[Oper.upon,Oper.uponIn]at h ⊢ <;>
   first
    |exact h
    |exact⟨(fun hh=>absurd hh (by simp[rf])),aw2 h⟩
    |exact⟨(fun hh=>absurd hh (by simp[rf])),ay5 h⟩
    |exact h.elim
 |halt x w'=>cases x<;>simp only[Oper.upon,Oper.uponIn]at h ⊢<;>first|exact h|exact h.elim
def awz (P:Program) (ops:Array Oper) (Q:Exit->Act->World->Prop) (i:Nat) (K:Act->World->Prop) (a:Act) (w:World):Prop :=
 match ops[i]? with
 |none=>K a w
 |some o=>if Region.wanted o (yielded ops a.tmps)then o.wp P a w K Q else K (a.put o.dst undef) w
theorem Eff.nd {E:Env} {nt:Nat} {ops:Array Oper} {o:Oper} {an:Ann} {s:S} {x:Option HR} {wr:Wr} (he:Eff P E nt ops o an s x wr):be ops s o=some false\/∀c,o.op≠.defer c:=by
 cases he with
 |skip hw hd=>exact .inl hw
 |cut out id hw hd hq' hp hW=>exact .inr fun c hc=>by rw[hc]at hq';cases hq'
 |quiet out hw hd hq' hp hM=>exact .inr fun c hc=>by rw[hc]at hq';cases hq'
 |make nw hw hd hq' hp hm hn hW hN hM=>exact .inr fun c hc=>by rw[hc]at hq';cases hq'
 |store u hw hd hq' hp hW hM=>exact .inr fun c hc=>by rw[hc]at hq';cases hq'
 |app u hw hd hq' hp hn hW hN hM=>exact .inr fun c hc=>by rw[hc]at hq';cases hq'
 |call cl f fst caps args p vs b hw hd ho hc hf hv hp hco hpure hb hM=>exact .inr fun c hc=>by rw[hc]at ho;cases ho
 |conv sr ds x b hw hd ho hcv hp hM=>exact .inr fun c hc=>by rw[hc]at ho;cases ho
 |fcall cl f caps args hcs o1 o2 res fx hw hd ho hc hf hv hco hfun hsub hnew hnm hcl hclr hW hN hM=>exact .inr fun c hc=>by rw[hc]at ho;cases ho
end
section
variable {P:Program}{E:Env}{w0:World}{m0:Old}{nt:Nat}{s:S}{a:Act}{w:World}{ops:Array Oper}{o:Oper}{an:Ann}
def jl (h:d6 nt o.dst=true):∀k,o.dst=some k->k<nt:=by
 intro k hk;rw[hk]at h;exact of_decide_eq_true h
theorem fc {c:Ctx} (h:ah w0 nt c s a w) {b:Bool} (hw:be ops s o=some b):Region.wanted o (yielded ops a.tmps)=b:=by
 unfold be at hw;unfold Region.wanted;split at hw
 · grind
 rename_i j want hg;rw[hg];split at hw<;>try(cases hw;done)
 rename_i d hd;split at hw<;>try(cases hw;done)
 rotate_left
 · rename_i hb
   simp only[bst]at hw;obtain⟨us,e1,e2⟩:=h.tmps d _ hb
   have e3:us=[]:=by cases us with|nil=>rfl|cons=>exact e2.elim
   subst e3;show(yielded ops a.tmps j==some want)=b
   have hy:yielded ops a.tmps j=none:=by
    unfold yielded;rw[hd];simp only[Option.bind_some]
    rcases bwf d a.tmps.size with h'|h'
    · simp_all
    grind
   grind
 rename_i bb hb;simp only[bst]at hw;obtain⟨e1,_⟩:=h.tmps d _ hb
 have hsz:d<a.tmps.size:=by
  rcases bwf d a.tmps.size with h'|h'
  · exact h'
  have:a.tmps.getD d undef=undef:=by simp[bvk h']
  rw[this]at e1;cases e1
 have:a.tmps[d]? = some (.bool bb):=by
  simp_all
 have hy:yielded ops a.tmps j=some bb:=by
  unfold yielded
  grind
 simp_all
def c6.append {c:Ctx} {o:au}:∀{xs ys:List HC} {us vs:List Value},c6 c o xs us->c6 c o ys vs->c6 c o (xs++ys) (us++vs)
 | [],_,[],_,_,h=>h
 |_::_,_,_::_,_,h,k=>⟨h.1,c6.append h.2 k⟩
 | [],_,_::_,_,h,_=>h.elim
 |_::_,_,[],_,h,_=>h.elim
def a6a {c:Ctx} {o:au} {caps:Nat->HV}:∀(n i:Nat) (cs:List Value),cs.length=i+n->(∀j,j<i+n->∃x,cs[j]? = some x/\bj c o (caps j) x)->c6 c o (ain caps n i) (cs.drop i)
 | 0,i,cs,hl,_=>by
  rw[bvw bww];trivial
 | n+1,i,cs,hl,h=>by
  rw[bva bww];obtain⟨x,hx,hr⟩:=h i bww;rw[bsu bww]at hx;simp only[bst]at hx;subst hx;exact⟨hr,a6a n (i+1) cs bww fun j hj=>h j bww⟩
def aar {c:Ctx} (h:ah w0 nt c s a w):∀{l:List Operand} {hcs:List HC},tc (ev s) l=some hcs->c6 c s.o hcs (l.map a.eval)
 | [],hcs,hv=>by
  simp only[tc,bst]at hv;subst hv;trivial
 | x::r,hcs,hv=>by
  simp only[tc]at hv;split at hv<;>try(cases hv;done)
  rename_i cc l e1 e2;simp only[bst]at hv;subst hv;exact⟨af h e1,aar h e2⟩
section
variable {K:Act->World->Prop}{Q:Exit->Act->World->Prop}
theorem awk (hE:d7 P E) {x:Option HR} {wr:Wr} (he:Eff P E nt ops o an s x wr) (h:Rel w0 m0 nt s a w) {i:Nat} (hi:ops[i]? = some o) (hK:∀a' w',Rel w0 m0 nt (s.after o.dst x wr) a' w'->K a' w'):awz P ops Q i K a w:=by
 obtain⟨c,hold,h⟩:=h;unfold awz;simp only[hi]
 cases he with
 | cut out id hw hd hq' hp hW =>
  rw[if_pos (fc h hw)];obtain⟨v,c',h1,hold',h2,h3⟩:=as2 hE h hq' hp;unfold Oper.wp;rw[h1];refine hK _ _ ⟨c',hold'.trans hold, ?_⟩
  have e:s.after o.dst (some out.val) [(id,none)]=(s.setO id none).putD o.dst (some out.val):=by
   unfold S.after;rw[S.setW_none]
  rw[e]
  exact h2.putD o.dst (jl hd) (some out.val) v (fun y hy=>by
   simp only[bst]at hy;subst hy
   exact h3)
 | skip hw hd =>
  rw[if_neg (by rw[fc h hw];simp)];exact hK _ _ ⟨c,hold,h.putD o.dst (jl hd) (some (.tup [])) undef (fun y hy=>by cases hy;exact⟨[],rfl,trivial⟩)⟩
 | quiet out hw hd hq' hp hM =>
  rw[if_pos (fc h hw)];obtain⟨v,h1,h2⟩:=b66 hE h hq' hp;unfold Oper.wp;rw[h1]
  exact hK _ _ ⟨c,hold,h.putD o.dst (jl hd) (some out.val) v (fun y hy=>by
   simp only[bst]at hy;subst hy
   exact h2)⟩
 | make nw hw hd hq' hp hm hn hW hN hM =>
  rw[if_pos (fc h hw)];obtain⟨v,w',c',h1,ho',h2,h3⟩:=b3m hE h hq' hp hm hn;have hold':=ho'.trans hold;unfold Oper.wp;rw[h1]
  exact hK _ _ ⟨c',hold',(by unfold S.after;rw[S.setW_one];exact h2.putD o.dst (jl hd) (some nw.val) v (fun y hy=>by
   simp only[bst]at hy;subst hy
   exact h3))⟩
 | store u hw hd hq' hp hW hM =>
  rw[if_pos (fc h hw)];obtain⟨w',c',h1,ho',h2⟩:=b4o hE h hq' hp;have hold':=ho'.trans hold;unfold Oper.wp;rw[h1];exact hK _ _ ⟨c',hold',(by unfold S.after;rw[S.setW_one];exact h2.putD o.dst (jl hd) none undef (fun y hy=>by cases hy))⟩
 | app u hw hd hq' hp hn hW hN hM =>
  rw[if_pos (fc h hw)];obtain⟨v,w',c',h1,⟨ho',h2⟩,h3⟩:=b2j hE h hq' hp hn;have hold':=ho'.trans hold;unfold Oper.wp;rw[h1]
  exact hK _ _ ⟨c',hold',(by unfold S.after;rw[S.setW_one];exact h2.putD o.dst (jl hd) (some u.val) v (fun y hy=>by
   simp only[bst]at hy;subst hy
   exact h3))⟩
 | conv sr ds x b hw hd ho hcv hp hM =>
  rw[if_pos (fc h hw)];unfold afq at hcv;split at hcv<;>try(cases hcv;done)
  rename_i ti td b' e1 e2 e3;split at hcv<;>try(cases hcv;done)
  rename_i el e4 e5;split at hcv<;>try(cases hcv;done)
  rename_i ei e6;split at hcv<;>try(cases hcv;done)
  rename_i e7;simp only[bst]at hcv;subst hcv;obtain⟨_,d1,_,p1,q1,_⟩:=b5 (hE sr ti e1);obtain⟨_,d2,_,p2,q2,_⟩:=b5 (hE ds td e2);obtain⟨_,d3,_,p3,q3,_⟩:=b5 (hE el ei e6);have r1:d1=.string:=by rw[e4]at q1;cases d1<;>simp[iz]at q1 ⊢
  have r2:d2=.slice el:=eo (q2.symm.trans e5)
  have r3:d3=.int .u8:=by
   rw[e7]at q3;cases d3<;>simp[iz]at q3 ⊢;exact q3.symm
  subst r1 r2 r3;have hev:a.eval x=.string b':=(af h e3).1;have hrun:=run_bytes_of_string (P:=P) w sr ds el b' p1 p2 p3
  have hex:(execOp a.eval o).run P w=.ok (.value (.slice (some ⟨w.heap.size,0,none⟩) b'.size (grownCap w b'.size 0 el)))
   (w.drew.alloc (.cells (bytesRow b' (grownCap w b'.size 0 el)) el ((bytesRow b' (grownCap w b'.size 0 el)).size,(bytesRow b' (grownCap w b'.size 0 el)).size+1))):=by
   unfold execOp;simp_all
  unfold Oper.wp;rw[hex];generalize hob:Obj.cells (bytesRow b' (grownCap w b'.size 0 el)) el ((bytesRow b' (grownCap w b'.size 0 el)).size,(bytesRow b' (grownCap w b'.size 0 el)).size+1)=ob
  have h':=h.later (w.drew.alloc ob) ⟨rfl,rfl,rfl,by simp,fun k hk=>anu w _ hk,bwd _⟩ (fun k=>if k=w.heap.size then some ob else c.imm k) (fun k hk=>if_neg bww) (fun k ob' hk=>by
   by_cases hkk:k=w.heap.size
   · rw [if_pos hkk]at hk
     rw[hkk,<- Option.some.inj hk];exact heap_alloc_new w.drew _
   rw[if_neg hkk]at hk;have hw':=h.imm k ob' hk
   exact(anu w _ (bt3.1 hw').1).trans hw')
  refine hK _ _ ⟨_,by exact hold,h'.putD o.dst (jl hd) (some (.v (.one (.p (.sl b'.size 1 false (aw0 b')))))) _ (fun y hy=>?_)⟩;simp only[bst]at hy;subst hy;refine⟨some ⟨w.heap.size,0,none⟩,_,rfl,grownCap_ge w _ _ _,grownCap_le_maxLen w _ _ _ hp,(fun hf=>by cases hf),fun _=>⟨w.heap.size,0,rfl,fun i j hi hj=>?_⟩⟩;obtain rfl:j=0:=by omega
  refine⟨.int .u8 (ce b' i), ?_,rfl,rfl⟩;unfold j2;dsimp only;rw[if_pos rfl,<- hob];dsimp only;unfold bytesRow ce;have hsz:b'.data.size=b'.size:=rfl;rw[Array.getElem?_append_left bxc]
  grind
 | call cl f fst caps args p vs b hw hd ho hc hf hv hp hco hpure hb hM =>
  rw[if_pos (fc h hw)];obtain⟨fn,hfn,hname,hbody⟩:=hf;obtain⟨q1,q2⟩:=a3u h (b71 h) hv hp
  obtain ⟨fo,us,cs,hcal,e1,hfst,hcapr⟩:∃(fo:Operand) (us cs:List Value),cl.callee=.value fo/\a.eval fo=.func (.func f) us.toArray cs.toArray/\(∀m:Imm,Imm.le c.imm m->d8 m fst us)/\∀m:Imm,Imm.le c.imm m->d8 m caps cs:=by
   unfold callee at hc;split at hc<;>try(cases hc;done)
   rename_i fo hcal;split at hc<;>try(cases hc;done)
   · rename_i g k capf hfo
     simp only[bst,bt2]at hc;obtain⟨rfl,rfl,rfl⟩:=hc;obtain⟨cs,e1,hcl,hcr⟩:=af h hfo;refine⟨fo,[],cs,hcal,e1,fun _ _=>trivial,fun m hm=>?_⟩
     have:=a09 (m:=m) (caps:=capf) k 0 cs bww (fun j hj=>by
      obtain⟨x,hx,hr⟩:=hcr j bww
      exact⟨x,hx,aq.mono hm hr⟩)
     grind
   rename_i g k fr hfo;simp only[bst,bt2]at hc;obtain⟨rfl,rfl,rfl⟩:=hc;obtain⟨cs,e1,hcl,hcr⟩:=af h hfo;refine⟨fo,[.agg cs.toArray],[],hcal,e1,fun m hm=>⟨⟨cs,rfl, ?_⟩,trivial⟩,fun _ _=>trivial⟩
   have:=ajt (m:=m) (f:=fr) k 0 cs bww (fun j hj=>by
    obtain⟨x,hx,hr⟩:=hcr j bww
    exact⟨x,hx,aq.mono hm hr⟩)
   grind
  have hrun:(execOp a.eval o).run P w=.ok (.enter f (us++((cl.args.toList.map a.eval)++cs)).toArray) w:=by
   unfold execOp;simp only[ho,resolve,hcal,bu3,e1,Deferred.ofValue,buh,bth,invoke,callFunc,run_program,hfn,hname,hbody];simp
  unfold Oper.wp;rw[hrun];rw[Oper.upon_enter]
  cases hbb:b with
  | false =>
   have hargs:d8 c.imm args (us++(cl.args.toList.map a.eval++cs)):=CoL.sound hco (d8.append (hfst _ (Imm.le.refl _)) (d8.append (q2 hbb) (hcapr _ (Imm.le.refl _))));refine(hpure w c.imm _ c.tab h.imm hargs).mono ?_;rintro e w' ⟨v,imm',rfl,hr,h1,h2,h3⟩;have h':=h.later w' h3 imm' h1 h2
   exact hK _ _ ⟨_,by exact hold,h'.putD o.dst (jl hd) (some an.res.toH) v (fun y hy=>by
    simp only[bst]at hy;subst hy
    exact ar.of_P hr)⟩
  | true =>
   have hflat:an.res.flat=true:=by rw[hbb]at hb;simpa using hb
   have hargs:d8 (fw w) args (us++(cl.args.toList.map a.eval++cs)):=CoL.sound hco (d8.append (hfst _ (yu h)) (d8.append q1 (hcapr _ (yu h))));refine(hpure w (fw w) _ (c.tab.mono (yu h)) (fun _ _ hh=>hh) hargs).mono ?_;rintro e w' ⟨v,imm',rfl,hr,h1,h2,h3⟩
   have h':=h.later w' h3 (fun b=>if b<w.heap.size then c.imm b else none) (fun b hb=>by simp[hb]) (fun b ob hbo=>by
    by_cases hlt:b<w.heap.size
    · simp only [hlt,if_true]at hbo
      rw[h3.block b hlt];exact h.imm b ob hbo
    simp[hlt]at hbo)
   exact hK _ _ ⟨_,by exact hold,h'.putD o.dst (jl hd) (some an.res.toH) v (fun y hy=>by
    simp only[bst]at hy;subst hy
    exact ar.of_P (tl.flat hflat hr))⟩
 | fcall cl f caps args hcs o1 o2 res fx hw hd ho hc hf hv hco hfun hsub hnew hnm hcl hclr hW hN hM =>
  rw[if_pos (fc h hw)];unfold wn at hc;split at hc<;>try(cases hc;done)
  rename_i fo hcal;obtain⟨fn,hfn,hname,hbody⟩:=hf
  obtain ⟨cs,e1,hcapr⟩:∃cs:List Value,a.eval fo=.func (.func f) #[] cs.toArray/\c6 c s.o caps cs:=by
   split at hc<;>try(cases hc;done)
   · rename_i g k capf hfo
     simp only[bst,bt2]at hc;obtain⟨rfl,rfl⟩:=hc;obtain⟨cs,e1,hcl',hcr⟩:=af h hfo;refine⟨cs,e1, ?_⟩
     have:=a09 (m:=c.imm) (caps:=capf) k 0 cs bww (fun j hj=>by
      obtain⟨x,hx,hr⟩:=hcr j bww
      exact⟨x,hx,hr⟩)
     exact c6.of_P (by simpa using this)
   rename_i g k capf hfo;simp only[bst,bt2]at hc;obtain⟨rfl,rfl⟩:=hc;obtain⟨cs,e1,hcl',hcr⟩:=af h hfo;refine⟨cs,e1, ?_⟩;have:=a6a (c:=c) (o:=s.o) (caps:=capf) k 0 cs bww (fun j hj=>hcr j bww);simp_all
  have hrun:(execOp a.eval o).run P w=.ok (.enter f ((cl.args.toList.map a.eval)++cs).toArray) w:=by
   unfold execOp;simp only[ho,resolve,hcal,bu3,e1,Deferred.ofValue,buh,bth,invoke,callFunc,run_program,hfn,hname,hbody];simp
  have hargs:c6 c s.o args (cl.args.toList.map a.eval++cs):=c6.co hco (c6.append (aar h hv) hcapr);obtain⟨hmem,hto⟩:=h.lend hsub;unfold Oper.wp;rw[hrun];rw[Oper.upon_enter];refine(hfun w c _ hmem (hto _ _ hargs)).mono ?_;rintro e w' ⟨v,c',rfl,hr,hm',hbel,hfr,hbk,hfx⟩;obtain⟨c'',q1,_,q2,q3⟩:=h.fcall hsub (fun id h2 h1=>hnew id h2 h1) (fun id h2 h1=>hnm id h2 h1) hcl hm' hbel hfr hbk hfx
  exact hK _ _ ⟨c'',q1.trans hold,q2.putD o.dst (jl hd) (some res) v (fun y hy=>by
   simp only[bst]at hy;subst hy
   exact q3 _ _ hr hclr)⟩
def a7b(hE:d7 P E){ro:Option Nat}{n:Nat}{x:Option HR}{wr:Wr}(he:Eff P E nt ops o an s x wr)(h:Rel w0 m0 nt s a w){i:Nat}(hi:ops[i]? = some o)(hK:∀a' w',Rel w0 m0 nt (s.after o.dst x wr) a' w'->K a' w'):wpOpIn (rf ro) n P ops Q i K a w:=by
 have h1:=awk hE he h hi (Q:=Q) hK;unfold awz at h1;unfold wpOpIn;simp only[hi]at h1 ⊢;obtain⟨c,hold,hr⟩:=h
 rcases he.nd with hn|hn
 · have hw:=fc hr hn
   rw[if_neg (by rw[hw];simp)]at h1 ⊢;exact⟨fun _ _=>trivial,h1⟩
 split
 · rename_i hw
   rw[if_pos hw]at h1;exact a23 hn h1
 rename_i hw;rw[if_neg hw]at h1;exact⟨fun _ _=>trivial,h1⟩
end
end
end
section
open Go.RowKit
section
variable {E:Env}{ex:Bool}{o o':au}{e e':Ev}
section
variable {x:Operand}
def ey {r:HR} (hx:e x=some r):∀{l:List Operand},x∈l->∀k∈r.ids,k∈dj e l
 | y::l,hm,k,hk=>by
  rcases bt7.1 hm with rfl|hm
  · simp only[dj,hx];exact btg _ hk
  simp only[dj];exact btv _ (ey hx hm k hk)
def ta:∀{l:List Operand},(∀x∈l,e' x=e x)->dj e' l=dj e l
 | [],_=>rfl
 | x::l,h=>by
  simp only[dj];rw[h x bx0,ta fun y hy=>h y (by simp[hy])]
def bx7{p:Prop}(h:p:=by simp[HV.ids]):p:=h
variable {h:HV}
def a10 (ho:∀k∈h.ids,o' k=o k):tgt o' h=tgt o h:=by
 cases h with
 |p x=>cases x<;>rfl
 |ref id n=>rfl
 |ptr id off=>simp only[tgt];rw[ho id bx7]
 |eptr id n i j=>simp only[tgt];rw[ho id bx7]
 |win id n i m=>rfl
 |clo g k caps=>rfl
 |row id i k=>rfl
 |rptr id i k r j=>simp only[tgt];rw[ho id bx7]
 |pin id n ad cap=>rfl
def a2n {places:List (Nat×Nat)}:∀{parts:List (Nat×Operand)} {cells:List HV},(∀x∈parts.map (·.2),e' x=e x)->it e' places cells parts=it e places cells parts
 | [],_,_=>rfl
 | (i,x)::r,cells,h=>by
  have hx:=h x bx0;have ih:∀cells,it e' places cells r=it e places cells r:=fun cells=>a2n fun y hy=>h y (by simp at hy ⊢;exact .inr hy);simp only[it,hx,ih]
def ab1:∀{l:List Operand},(∀x∈l,e' x=e x)->a1p e' l=a1p e l
 | [],_=>rfl
 | x::l,h=>by
  simp only[a1p];rw[h x bx0,ab1 fun y hy=>h y (by simp[hy])]
def ab9:∀{l:List Operand},(∀x∈l,e' x=e x)->a12 e' l=a12 e l
 | [],_=>rfl
 | x::l,h=>by
  simp only[a12];rw[h x bx0,ab9 fun y hy=>h y (by simp[hy])]
def nu {x:Option Operand} (h:∀y∈x.toList,e' y=e y):jd e' x=jd e x:=by
 cases x with
 |none=>rfl
 |some y=>simp only[jd];rw[h y bx0]
def aex{b:Builtin}{args:List Operand}{tys:List TypeId}(h:∀x∈args,e' x=e x):up E e' b args tys=up E e b args tys:=by
 unfold up;split
 · rename_i x t r
   rw[h x bx0]
 · rename_i x y
   rw[h x bx0,h y bx0]
 · rename_i x y
   rw[h x bx0,h y bx0]
 rfl
def avp (ho:∀k∈h.ids,o' k=o k):a8e o' h=a8e o h:=by
 cases h with
 |ref id n=>simp only[a8e];rw[ho id bx7]
 |win id n i m=>simp only[a8e];rw[ho id bx7]
 |row id i k=>simp only[a8e];rw[ho id bx7]
 |_=>rfl
variable {n:Nat}
def ax4 {i:Int} (ho:∀k∈h.ids,o' k=o k):acr o' n i h=acr o n i h:=by
 cases h with
 |ref id n=>simp only[acr];rw[ho id bx7]
 |win id n i m=>simp only[acr];rw[ho id bx7]
 |row id i k=>simp only[acr];rw[ho id bx7]
 |p x=>cases x<;>rfl
 |_=>rfl
def aoy {x y z:Option Int} (ho:∀k∈h.ids,o' k=o k):a0l o' n x y z h=a0l o n x y z h:=by
 cases h with
 |ref id n=>simp only[a0l];rw[ho id bx7]
 |win id n i m=>simp only[a0l];rw[ho id bx7]
 |_=>rfl
def akc{l:List Operand}{F:au->HV->Option Out}{α:Type}{d:α}{G:Option Out->α}(hF:∀h:HV,(∀k∈h.ids,o' k=o k)->F o' h=F o h)(hl:x∈l)(ho:∀k∈dj e l,o' k=o k):
 (match e x with|some (.v (.one h))=>G (F o' h)|_=>d)=(match e x with|some (.v (.one h))=>G (F o h)|_=>d):=by
 cases hex:e x with
 |none=>rfl
 | some r =>
  cases r with
  |tup l=>rfl
  | v cc =>
   cases cc with
   |agg l=>rfl
   | one h =>
    dsimp only;rw[hF h fun k hk=>ho k (ey hex hl k hk)]
def ahm{b:Builtin}{args:List Operand}{tys:List TypeId}(h:∀x∈args,e' x=e x)(ho:∀k∈dj e args,o' k=o k):vt E o' e' b args tys=vt E o e b args tys:=by
 unfold vt;split
 · rename_i x t r
   rw[h x bx0]
   cases E t with
   |none=>rfl
   | some ti =>
    dsimp only;cases ti.k<;>try rfl
    exact akc (G:=id) (F:=a8e) (fun h hh=>avp hh) bx0 ho
 rfl
def as3(ho:∀k∈dj e [x],o' k=o k):tk o' e x=tk o e x:=by
 unfold tk
 cases hex:e x with
 |none=>rfl
 | some r =>
  cases r with
  |tup l=>rfl
  | v cc =>
   cases cc with
   |agg l=>rfl
   | one h =>
    have:=a10 (o:=o) (o':=o') (h:=h) (fun k hk=>ho k (ey hex bx0 k hk))
    cases h with
    |p x=>cases x<;>rfl
    |ref id n=>rfl
    |ptr id off=>dsimp only;rw[this]
    |eptr id n i j=>dsimp only;rw[this]
    |win id n i m=>rfl
    |clo g k caps=>rfl
    |row id i k=>rfl
    |rptr id i k r j=>dsimp only;rw[this]
    |pin id n ad cap=>rfl
variable {t:TypeId}
def aoc(ho:∀k∈dj e [x],o' k=o k):nn E o' e t x=nn E o e t x:=by
 unfold nn
 cases E t with
 |none=>rfl
 | some i =>
  dsimp only
  cases hex:e x with
  |none=>rfl
  | some r =>
   cases r with
   |tup l=>rfl
   | v cc =>
    cases cc with
    |agg l=>rfl
    | one h =>
     dsimp only;rw[a10 (o:=o) (o':=o') (h:=h) (fun k hk=>ho k (ey hex bx0 k hk))]
def aam{k:Nat}(ho:∀k∈dj e [x],o' k=o k):gn E o' e t x k=gn E o e t x k:=by
 unfold gn
 cases E t with
 |none=>rfl
 | some i =>
  dsimp only;cases i.k<;>try rfl
  rename_i fs;dsimp only
  cases fs[k]? with
  |none=>rfl
  | some q =>
   obtain⟨off,ft,bl⟩:=q;dsimp only
   cases E ft with
   |none=>rfl
   | some fi =>
    dsimp only
    cases hex:e x with
    |none=>rfl
    | some r =>
     cases r with
     |tup l=>rfl
     | v cc =>
      cases cc with
      |agg l=>rfl
      | one h =>
       dsimp only;rw[a10 (o:=o) (o':=o') (h:=h) (fun k hk=>ho k (ey hex bx0 k hk))]
variable {el:TypeId}{i:Operand}
def abv{len:Nat}(ho:∀k∈dj e [x],o' k=o k):p8 E o' e len el x i=p8 E o e len el x i:=by
 unfold p8
 cases E el with
 |none=>rfl
 | some ei =>
  dsimp only
  cases hex:e x with
  |none=>rfl
  | some r =>
   cases r with
   |tup l=>rfl
   | v cc =>
    cases cc with
    |agg l=>rfl
    | one h =>
     dsimp only;rw[a10 (o:=o) (o':=o') (h:=h) (fun k hk=>ho k (ey hex bx0 k hk))]
def aai(ho:∀k∈dj e [x],o' k=o k):gz E o' e t x i=gz E o e t x i:=by
 unfold gz
 cases E t with
 |none=>rfl
 | some ii =>
  dsimp only;cases ii.k<;>try rfl
  case array len el=>exact abv ho
  rename_i el;dsimp only
  cases E el with
  |none=>rfl
  | some ei =>
   dsimp only
   cases hex:e x with
   |none=>rfl
   | some r =>
    cases r with
    |tup l=>rfl
    | v cc =>
     cases cc with
     |agg l=>rfl
     | one h =>
      dsimp only;have:=fun iv=>ax4 (o:=o) (o':=o') (h:=h) (n:=ei.size) (i:=iv) (fun k hk=>ho k (ey hex bx0 k hk));simp only[this]
def arm {kk:KK} {m:MK} {z:Value} {cm:Bool} (ho:∀k∈h.ids,o' k=o k):ads o' kk m z cm h=ads o kk m z cm h:=by
 cases h with
 |ref id n=>simp only[ads];rw[ho id bx7]
 |p y=>cases y<;>rfl
 |_=>rfl
def ah7{cm:Bool}(ho:∀k∈dj e [x],o' k=o k):li E o' e t x i cm=li E o e t x i cm:=by
 unfold li
 cases E t with
 |none=>rfl
 | some ii =>
  dsimp only;cases ii.k<;>try rfl
  rename_i kt et;dsimp only
  cases alh E kt et with
  |none=>rfl
  | some q =>
   obtain⟨kk,z⟩:=q;dsimp only
   cases hex:e x with
   |none=>rfl
   | some r =>
    cases r with
    |tup l=>rfl
    | v cc =>
     cases cc with
     |agg l=>rfl
     | one h =>
      dsimp only;have:=fun m=>arm (o:=o) (o':=o') (h:=h) (kk:=kk) (m:=m) (z:=z) (cm:=cm) (fun k hk=>ho k (ey hex bx0 k hk));simp only[this]
def aky {op:BinOp} (ho:∀k∈h.ids,o' k=o k):a3n o' op h=a3n o op h:=by
 cases h with
 |ptr id n=>simp only[a3n];rw[ho id bx7]
 | p x=>cases x with
  |raw v=>cases v<;>rfl
  |_=>rfl
 |_=>rfl
def ai1{op:BinOp}{y:Operand}(ho:∀k∈dj e [x],o' k=o k):l8 E o' e op t x y=l8 E o e op t x y:=by
 unfold l8;split<;>try rfl
 cases E t with
 |none=>rfl
 | some ii =>
  dsimp only;cases ii.k<;>try rfl
  dsimp only
  cases hex:e x with
  |none=>rfl
  | some r =>
   cases r with
   |tup l=>rfl
   | v cc =>
    cases cc with
    |agg l=>rfl
    |one h=>exact aky (fun k hk=>ho k (ey hex bx0 k hk))
def bx2{p:Prop}(h:p:=by simp[Op.operands]):p:=h
variable {op:Op}
def b5l(hx:∀x∈op.operands,e' x=e x)(ho:∀k∈dj e op.operands.toList,o' k=o k):hq E ex o' e' op=hq E ex o e op:=by
 cases op<;>try rfl
 case move x=>show Option.map _ (e' x)=Option.map _ (e x);rw[hx x bx2]
 case assign x=>show Option.map _ (e' x)=Option.map _ (e x);rw[hx x bx2]
 case pick c x y =>
  show a43 e' c x y=a43 e c x y;unfold a43;rw[hx c bx2,hx x bx2,hx y bx2]
 case nilCheck x =>
  show tk o' e' x=tk o e x;have h1:tk o' e' x=tk o' e x:=by unfold tk;rw[hx x bx2]
  rw[h1];exact as3 (by simpa [Op.operands]using ho)
 case load t x =>
  show nn E o' e' t x=nn E o e t x;have h1:nn E o' e' t x=nn E o' e t x:=by unfold nn;rw[hx x bx2]
  rw[h1];exact aoc (by simpa [Op.operands]using ho)
 case fieldAddr t x k =>
  show gn E o' e' t x k=gn E o e t x k;have h1:gn E o' e' t x k=gn E o' e t x k:=by unfold gn;rw[hx x bx2]
  rw[h1];exact aam (by simpa [Op.operands]using ho)
 case field t x k =>
  show zb E e' t x k=zb E e t x k;unfold zb;rw[hx x bx2]
 case indexAddr t x i =>
  show gz E o' e' t x i=gz E o e t x i;have h1:gz E o' e' t x i=gz E o' e t x i:=by unfold gz p8;rw[hx x bx2,hx i bx2]
  rw[h1];refine aai fun k hk=>ho k ?_;simp only[dj,Op.operands,btu]at hk ⊢;exact btg _ hk
 case lookup t x i cm =>
  show li E o' e' t x i cm=li E o e t x i cm;have h1:li E o' e' t x i cm=li E o' e t x i cm:=by unfold li;rw[hx x bx2,hx i bx2]
  rw[h1];refine ah7 fun k hk=>ho k ?_;simp only[dj,Op.operands,btu]at hk ⊢;exact btg _ hk
 case index t x i =>
  show yx E e' t x i=yx E e t x i;unfold yx;rw[hx x bx2,hx i bx2]
 case binOp op t x y ty =>
  have h1:a8x E ex e' op t x y=a8x E ex e op t x y:=by
   unfold a8x;rw[hx x bx2,hx y bx2]
  have h2:wq E e' op t x y=wq E e op t x y:=by
   unfold wq;rw[hx x bx2]
  have h3:l8 E o' e' op t x y=l8 E o e op t x y:=by
   have h1:l8 E o' e' op t x y=l8 E o' e op t x y:=by unfold l8;rw[hx x bx2]
   rw[h1];refine ai1 fun k hk=>ho k ?_;simp only[dj,Op.operands,btu]at hk ⊢;exact btg _ hk
  simp only[hq];rw[h1,h2,h3]
 case unOp op t x =>
  show agi ex e' op x=agi ex e op x;unfold agi;rw[hx x bx2]
 case convert src dst x =>
  show a4j E ex e' src dst x=a4j E ex e src dst x;unfold a4j;rw[hx x bx2]
 case extract x i =>
  show uo e' x i=uo e x i;unfold uo;rw[hx x bx2]
 case slice t x lo hi mx =>
  have e0:=hx x bx2;have e1:=nu (e:=e) (e':=e') (x:=lo) (fun y hy=>hx y (by simp[Op.operands];simp at hy;simp[hy]));have e2:=nu (e:=e) (e':=e') (x:=hi) (fun y hy=>hx y (by simp[Op.operands];simp at hy;simp[hy]));have e3:=nu (e:=e) (e':=e') (x:=mx) (fun y hy=>hx y (by simp[Op.operands];simp at hy;simp[hy]))
  have h1:m8 E e' t x lo hi mx=m8 E e t x lo hi mx:=by
   unfold m8;rw[e0,e1,e2,e3]
  have h2:a98 E o' e' t x lo hi mx=a98 E o e t x lo hi mx:=by
   unfold a98;rw[e0,e1,e2,e3]
   cases E t with
   |none=>rfl
   | some ti =>
    dsimp only;cases ti.k<;>try rfl
    rename_i el;dsimp only
    cases E el with
    |none=>rfl
    | some ei =>
     dsimp only
     cases jd e lo with
     |none=>rfl
     | some l =>
      cases jd e hi with
      |none=>rfl
      | some hh =>
       cases jd e mx with
       |none=>rfl
       | some m =>
        dsimp only;exact akc (G:=id) (F:=fun o h=>a0l o ei.size l hh m h) (fun h hh=>aoy hh) (l:=(Op.slice t x lo hi mx).operands.toList) bx2 ho
  simp only[hq];rw[h1,h2]
 case makeFunc fn first caps =>
  show a2z e' fn first.toList caps.toList=a2z e fn first.toList caps.toList
  unfold a2z;rw[ab1 (l:=caps.toList) (fun y hy=>hx y (by simp[Op.operands];simp at hy;exact .inr hy)),ab9 (l:=caps.toList) (fun y hy=>hx y (by simp[Op.operands];simp at hy;exact .inr hy))];split
  · rfl
  · rename_i f x hf
    rw[hx x (by simp[Op.operands];left;rw[<- Array.mem_toList_iff,hf];simp)]
  rfl
 case build t parts =>
  show zg E e' t parts.toList=zg E e t parts.toList;have hf:∀places cells,it e' places cells parts.toList=it e places cells parts.toList:=fun places cells=>a2n fun x hm=>hx x (by simpa [Op.operands]using hm);unfold zg;simp only[hf]
 case call c =>
  simp only[hq]
  cases hc:c.callee with
  |value f=>rfl
  |invoke r m=>rfl
  | builtin b =>
   simp only[Op.operands,Call.operands,hc]at hx ho;have h1:∀x∈c.args.toList,e' x=e x:=fun x hm=>hx x (by simpa using hm);have h2:∀k∈dj e c.args.toList,o' k=o k:=fun k hk=>ho k (by simpa using hk);dsimp only;rw[aex h1,ahm h1 h2]
variable {id:Nat}
def b6u(hx:∀x∈op.operands,e' x=e x):ha E e' id op=ha E e id op:=by
 cases op<;>simp only[ha]<;>simp only[Op.operands]at hx
 case box t x=>rw[hx x bx0]
 case buildSlice t n parts =>
  have hf:∀sz cells,aa4 e' sz n parts.toList cells=aa4 e sz n parts.toList cells:=fun sz cells=>by
   unfold aa4;exact a2n fun x hm=>hx x (by simpa using hm)
  simp only[hf]
 case makeSlice t l c=>rw[hx l bx0,hx c bx0]
def aku{y:Operand}(ho:∀k∈dj e [x,y],o' k=o k):m7 E o' e t x y=m7 E o e t x y:=by
 unfold m7
 cases E t with
 |none=>rfl
 | some i =>
  cases hv:e y with
  |none=>rfl
  | some rv =>
   cases rv with
   |tup l=>rfl
   | v cv =>
    cases hex:e x with
    |none=>rfl
    | some r =>
     cases r with
     |tup l=>rfl
     | v cc =>
      cases cc with
      |agg l=>rfl
      | one h =>
       cases h with
       |p x=>cases x<;>rfl
       |ref id n=>rfl
       |ptr id off=>dsimp only;rw[ho id (ey hex bx0 id (by simp[HR.ids,HC.ids,HV.ids]))]
       |eptr id n r j=>dsimp only;rw[ho id (ey hex bx0 id (by simp[HR.ids,HC.ids,HV.ids]))]
       |win id n i m=>rfl
       |clo g k caps=>rfl
       |row id i k=>rfl
       |rptr id i k r j=>dsimp only;rw[ho id (ey hex bx0 id (by simp[HR.ids,HC.ids,HV.ids]))]
       |pin id n ad cap=>rfl
def aqw {kk:KK} {m:MK} {y:PV} (ho:∀k∈h.ids,o' k=o k):a6h o' kk m y h=a6h o kk m y h:=by
 cases h with
 |ref id n=>simp only[a6h];rw[ho id bx7]
 |_=>rfl
def abe{v:Operand}(ho:∀k∈dj e [x],o' k=o k):mf E o' e t x i v=mf E o e t x i v:=by
 unfold mf
 cases E t with
 |none=>rfl
 | some ii =>
  dsimp only;cases ii.k<;>try rfl
  rename_i kt et;dsimp only
  cases E kt with
  |none=>rfl
  | some ki =>
   dsimp only
   cases hex:e x with
   |none=>rfl
   | some r =>
    cases r with
    |tup l=>rfl
    | v cc =>
     cases cc with
     |agg l=>rfl
     | one h =>
      dsimp only;have:=fun kk m y=>aqw (o:=o) (o':=o') (h:=h) (kk:=kk) (m:=m) (y:=y) (fun k hk=>ho k (ey hex bx0 k hk));simp only[this]
def apg (hx:∀x∈op.operands,e' x=e x) (ho:∀k∈dj e op.operands.toList,o' k=o k):hs E o' e' op=hs E o e op:=by
 cases op<;>try rfl
 case mapUpdate t x i v =>
  show mf E o' e' t x i v=mf E o e t x i v;have h1:mf E o' e' t x i v=mf E o' e t x i v:=by unfold mf;rw[hx x bx2,hx i bx2,hx v bx2]
  rw[h1];refine abe fun k hk=>ho k ?_;simp only[dj,Op.operands,btu]at hk ⊢;exact btg _ hk
 case insert t x i v =>
  show mf E o' e' t x i v=mf E o e t x i v;have h1:mf E o' e' t x i v=mf E o' e t x i v:=by unfold mf;rw[hx x bx2,hx i bx2,hx v bx2]
  rw[h1];refine abe fun k hk=>ho k ?_;simp only[dj,Op.operands,btu]at hk ⊢;exact btg _ hk
 case store t addr v =>
  show m7 E o' e' t addr v=m7 E o e t addr v;have h1:m7 E o' e' t addr v=m7 E o' e t addr v:=by unfold m7;rw[hx addr bx2,hx v bx2]
  rw[h1];exact aku (by simpa [Op.operands]using ho)
def ab7(ho:∀k∈h.ids,o' k=o k):yp o' id h=yp o id h:=by
 cases h with
 | p x =>
  cases x with
  | raw v =>
   cases v with
   |slice a n c=>cases n<;>rfl
   |_=>rfl
  |_=>rfl
 |ref id' n=>simp only[yp];rw[ho id' bx7]
 |_=>rfl
variable {wb:Bool}
def a2a {y:HV} (hid:o' id=o id) (ho:∀k∈y.ids,o' k=o k):tf E o' id n wb el y=tf E o id n wb el y:=by
 simp only[tf];rw[hid,ab7 ho]
def afr (ho:∀k∈h.ids,o' k=o k):a6o o' id h=a6o o id h:=by
 simp only[a6o];rw[ab7 ho]
 cases h with
 |ref id' n=>simp only;rw[ho id' bx7]
 |_=>rfl
def aqn {y:HV} (hid:o' id=o id) (ho:∀k∈y.ids,o' k=o k):a0a E o' id n el y=a0a E o id n el y:=by
 simp only[a0a];rw[hid,afr ho]
def axb {y:HV} (hid:o' id=o id) (ho:∀k∈y.ids,o' k=o k):ad3 E o' id n el y=ad3 E o id n el y:=by
 simp only[ad3];rw[hid,afr ho]
def arq {i k:Nat} {y:HV} (hid:o' id=o id):a5m E o' el id n i k y=a5m E o el id n i k y:=by
 unfold a5m;rw[hid]
def aws {z:List Value} (ho:∀k∈h.ids,o' k=o k):ahz o' z n h=ahz o z n h:=by
 cases h with
 |win id n i m=>simp only[ahz];rw[ho id bx7]
 |_=>rfl
def art{hy hx:HV}(h1:∀k∈hx.ids,o' k=o k)(h2:∀k∈hy.ids,o' k=o k):yi E o' id wb el hy hx=yi E o id wb el hy hx:=by
 cases hx with
 | win id1 n i k =>
  simp only[yi];exact arq (h1 id1 bx7)
 | pin id1 n ad cap =>
  simp only[yi];rw[a2a (o:=o) (o':=o') (h1 id1 bx7) h2]
 | ref id1 n =>
  simp only[yi];rw[a2a (o:=o) (o':=o') (h1 id1 bx7) h2,aqn (o:=o) (o':=o') (h1 id1 bx7) h2,axb (o:=o) (o':=o') (h1 id1 bx7) h2]
 | p px =>
  cases px with
  | sl n sz cl f =>
   cases cl with
   |false=>rfl
   | true =>
    simp only[yi]
    cases E el with
    |none=>rfl
    | some ei =>
     dsimp only
     rw [a2a (o:=fun k=>if k=id then some (a7.arr false ei.size el n f)else o k) (o':=fun k=>if k=id then some (a7.arr false ei.size el n f)else o' k) bx0 (fun k hk=>by
      try dsimp only
      split
      · rfl
      exact h2 k hk)]
  |_=>rfl
 |_=>rfl
def arl{x y:Option HR}(hx:∀r,x=some r->∀k∈r.ids,o' k=o k)(hy:∀r,y=some r->∀k∈r.ids,o' k=o k):
 aaf E o' id wb t x y=aaf E o id wb t x y:=by
 unfold aaf
 cases E t with
 |none=>rfl
 | some i =>
  dsimp only;cases i.k<;>try rfl
  rename_i el
  cases x with
  |none=>rfl
  | some rx =>
   cases rx with
   |tup l=>rfl
   | v cx =>
    cases cx with
    |agg l=>rfl
    | one hxv =>
     cases y with
     |none=>rfl
     | some ry =>
      cases ry with
      |tup l=>rfl
      | v cy =>
       cases cy with
       |agg l=>rfl
       |one hyv=>exact art (hx _ rfl) (hy _ rfl)
def b1a(hx:∀x∈op.operands,e' x=e x)(ho:∀k∈dj e op.operands.toList,o' k=o k):hap E o' e' id wb op=hap E o e id wb op:=by
 cases op<;>try rfl
 case call c =>
  unfold hap;dsimp only;split
  · rename_i hc
    simp only[Op.operands,Call.operands,hc]at hx ho;have h1:∀x∈c.args.toList,e' x=e x:=fun x hm=>hx x (by simpa using hm);have h2:∀k∈dj e c.args.toList,o' k=o k:=fun k hk=>ho k (by simpa using hk);generalize c.args.toList=l at h1 h2;unfold a9k;split
    · rename_i x y t t' _
      split
      · rw [h1 x bx0,h1 y bx0]
        exact arl (fun r hr k hk=>h2 k (ey hr bx0 k hk)) (fun r hr k hk=>h2 k (ey hr bx0 k hk))
      rfl
    rfl
  · rename_i hc
    simp only[Op.operands,Call.operands,hc]at hx ho;have h1:∀x∈c.args.toList,e' x=e x:=fun x hm=>hx x (by simpa using hm);have h2:∀k∈dj e c.args.toList,o' k=o k:=fun k hk=>ho k (by simpa using hk);generalize c.args.toList=l at h1 h2;unfold a0j;split
    · rename_i x t _
      rw[h1 x bx0]
      cases E t with
      |none=>rfl
      | some ti =>
       dsimp only;cases ti.k<;>try rfl
       rename_i el;dsimp only
       cases E el with
       |none=>rfl
       | some ei =>
        dsimp only
        cases ei.zero with
        |none=>rfl
        | some z =>
         dsimp only;split
         · cases hex:e x with
           |none=>rfl
           | some r =>
            cases r with
            |tup l=>rfl
            | v cc =>
             cases cc with
             |agg l=>rfl
             |one hv=>exact aws fun k hk=>h2 k (ey hex bx0 k hk)
         rfl
    rfl
  rfl
def aaw (ho:∀k∈h.ids,o' k=o k):a4k o' h=a4k o h:=by
 cases h with
 |ref id n=>simp only[a4k];rw[ho id bx7]
 |_=>rfl
end
end
end
end Go.Hx

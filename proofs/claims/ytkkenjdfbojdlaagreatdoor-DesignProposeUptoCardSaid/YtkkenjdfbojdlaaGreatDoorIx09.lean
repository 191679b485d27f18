/- A part of the proof: Hx10 Hx11. -/
import Derived.Laws.IdiomStrings
import Derived.OrdersIn
import Derived.RangeFuncCalls
import Derived.RangeFuncNested
import Derived.Test.YtkkenjdfbojdlaaGreatDoorIx08
set_option linter.all false
namespace Go.Hx
section
open Go.RowKit
def a6 (P:Program) (f:FuncId) (args:List PC) (res:PR):Prop :=
 ∀ (w:World) (imm:Imm) (us:List Value),sw imm -> (∀ b ob,imm b = some ob -> w.heap[b]? = some ob) -> cn imm args us ->
  Calls P f us.toArray w fun e w'=>∃ v imm',e = .returned v /\ so imm' res v /\ (∀ b,b < w.heap.size -> imm' b = imm b) /\ (∀ b ob,imm' b = some ob -> w'.heap[b]? = some ob) /\ Below w.heap.size w w'
def a4n (o:b6):HV -> Option (Prop × PV × Bool)
 | .p x=>some (True,x,false)
 | .ref id n =>
  match o id with
  | some (.arr _ s _ n' f)=>some (n' = n, .sl n s false f,true)
  | _=>none
 | _=>none
def yw (o:b6):List HV -> Option (Prop × List PV × Bool)
 | []=>some (True,[],false)
 | x :: r =>
  match a4n o x,yw o r with
  | some (p,y,b),some (q,ys,b')=>some (p /\ q,y :: ys,b || b')
  | _,_=>none
def a9l (o:b6):HV -> Option (Prop × PV × Bool)
 | .ptr id off =>
  match o id with
  | some (.box l) =>
   match yw o (l.drop off) with
   | some (p,ys,_)=>some (p, .vp ys.length fun j=>ys.getD j .any,true)
   | none=>none
  | _=>none
 | h=>a4n o h
def a1o (o:b6):HC -> Option (Prop × PC × Bool)
 | .one h=>match a9l o h with | some (p,y,b)=>some (p, .one y,b) | none=>none
 | .agg l=>match yw o l with | some (p,ys,b)=>some (p, .agg ys,b) | none=>none
def ku (o:b6) (e:Ev):List Operand -> Option (Prop × List PC × Bool)
 | []=>some (True,[],false)
 | x :: r =>
  match e x,ku o e r with
  | some (.v cc),some (q,ys,b')=>match a1o o cc with | some (p,y,b)=>some (p /\ q,y :: ys,b || b') | none=>none
  | _,_=>none
def it (caps:Nat -> PV):Nat -> Nat -> List PC
 | 0,_=>[]
 | n + 1,i=>.one (caps i) :: it caps n (i + 1)
def PV.flat:PV -> Bool
 | .raw _=>true
 | .any=>true
 | _=>false
def ajx:List PV -> Bool
 | []=>true
 | x :: r=>x.flat && ajx r
def PC.flat:PC -> Bool
 | .one x=>x.flat
 | .agg l=>ajx l
def adr:List PC -> Bool
 | []=>true
 | x :: r=>x.flat && adr r
def PR.flat:PR -> Bool
 | .v x=>x.flat
 | .tup l=>adr l
section
variable {m m':Imm}
def ay.flat {x:PV} {u:Value} (hf:x.flat = true) (h:ay m x u):ay m' x u:=by
 cases x <;> simp [PV.flat] at hf <;> exact h
def f5.flat:∀ {xs:List PV} {us:List Value},ajx xs = true -> f5 m xs us -> f5 m' xs us
 | [],[],_,_=>trivial
 | _ :: _,_ :: _,hf,h=>by
  simp only [ajx,bmw] at hf;exact ⟨h.1.flat hf.1,f5.flat hf.2 h.2⟩
 | [],_ :: _,_,h=>h.elim
 | _ :: _,[],_,h=>h.elim
def iu.flat {x:PC} {u:Value} (hf:x.flat = true) (h:iu m x u):iu m' x u:=by
 cases x with
 | one x=>exact ay.flat hf h
 | agg l=>obtain ⟨us,e,hl⟩:=h;exact ⟨us,e,hl.flat hf⟩
def cn.flat:∀ {xs:List PC} {us:List Value},adr xs = true -> cn m xs us -> cn m' xs us
 | [],[],_,_=>trivial
 | _ :: _,_ :: _,hf,h=>by
  simp only [adr,bmw] at hf;exact ⟨h.1.flat hf.1,cn.flat hf.2 h.2⟩
 | [],_ :: _,_,h=>h.elim
 | _ :: _,[],_,h=>h.elim
def so.flat {x:PR} {u:Value} (hf:x.flat = true) (h:so m x u):so m' x u:=by
 cases x with
 | v x=>exact iu.flat hf h
 | tup l=>obtain ⟨us,e,hl⟩:=h;exact ⟨us,e,hl.flat hf⟩
def gw (w:World):Imm:=fun b=>w.heap[b]?
end
section
variable {P:Program} {E:Env} {w0:World} {nt:Nat} {c:Ctx} {s:S} {a:Act} {w:World}
structure a04 (w0:World) (c:Ctx) (w:World) (m:Imm):Prop where
 le:Imm.le c.imm m
 new:∀ b,c.frm b = none -> b < w.heap.size -> m b = w.heap[b]?
def yp (h:ah w0 nt c s a w):Imm.le c.imm (gw w):=fun b ob hb=>h.imm b ob hb
def b0k (h:ah w0 nt c s a w):a04 w0 c w (gw w):=⟨yp h,fun _ _ _=>rfl⟩
section
variable {m:Imm}
def aak (hm:a04 w0 c w m) {b off:Nat} {x:Value} (hb:c.frm b = none) (hc:w.cell? ⟨b,off,none⟩ = some x):jw m b off = some x:=by
 have hlt:=World.block_lt_of_cell? w _ hc;unfold World.cell? at hc;unfold jw;rw [hm.new b hb hlt];dsimp only at hc;split at hc
 · rename_i cs e fr hb
   rw [hb];simpa using hc
 cases hc
def aaa (h:ah w0 nt c s a w) (hm:a04 w0 c w m) {x:HV} {u:Value} (hu:bm c s.o x u) {p:Prop} {y:PV} {b:Bool} (hv:a4n s.o x = some (p,y,b)) (hp:p):
 ay m y u /\ (b = false -> ay c.imm y u):=by
 unfold a4n at hv;split at hv
 · simp only [bmk,bmu] at hv
   obtain ⟨_,rfl,rfl⟩:=hv;exact ⟨ay.mono hm.le hu,fun _=>hu⟩
 · rename_i id n
   split at hv <;> try (cases hv;done)
   rename_i wr sz e n' f ho;simp only [bmk,bmu] at hv;obtain ⟨rfl,rfl,rfl⟩:=hv;obtain rfl:n' = n:=hp;refine ⟨?_,fun hb=>by cases hb⟩;obtain ⟨_,_,h3⟩:=hu;have hown:=(h3 _ _ _ _ ho rfl).2 rfl;obtain ⟨h0,h1,h5⟩:=h.objs id _ ho
   rcases h5 with ⟨h6,xs,h2,h4⟩ | ⟨h6,h7,h8⟩
   · rcases h2.2 with ⟨hv,hz⟩ | ⟨g,cap,cur,hv,hbase,hheap,hcap,hmax,hcs,htake⟩
     · exact ⟨none,0,by rw [hown,hv,hz],by omega,by simp [maxLen],(fun hh=>by cases hh),fun hn=>by omega⟩
     refine ⟨_,cap,by rw [hown,hv],hcap,hmax,(fun hh=>by cases hh),fun hn=>⟨g,0,rfl,fun i j hi hj=>?_⟩⟩;obtain ⟨x,hx,hr⟩:=h4 i j hi hj;have:=h2.cells (g:=g) (by rw [hv];rfl) _ _ hx;rw [dm] at this;exact ⟨x,aak hm (h.fsep id _ g ho (by rw [h6,hv];rfl)) this,ay.mono hm.le hr⟩
   obtain ⟨ad,cap,q1,q2,q3,q4,q5⟩:=ay.mono hm.le h8;rw [hown];exact ⟨ad,cap,q1,q2,q3,(fun hh=>by cases hh),q5⟩
 cases hv
def a1y (h:ah w0 nt c s a w) (hm:a04 w0 c w m):∀ {xs:List HV} {us:List Value} (_:bc c s.o xs us) {p:Prop} {ys:List PV} {b:Bool} (_:yw s.o xs = some (p,ys,b)) (_:p),
 f5 m ys us /\ (b = false -> f5 c.imm ys us)
 | [],[],_,p,ys,b,hv,_=>by
  simp only [yw,bmk,bmu] at hv;obtain ⟨_,rfl,_⟩:=hv;exact ⟨trivial,fun _=>trivial⟩
 | x :: xs,u :: us,hu,p,ys,b,hv,hp=>by
  simp only [yw] at hv;split at hv <;> try (cases hv;done)
  rename_i p1 y1 b1 p2 ys2 b2 h1 h2;simp only [bmk,bmu] at hv;obtain ⟨rfl,rfl,rfl⟩:=hv;obtain ⟨q1,q2⟩:=aaa h hm hu.1 h1 hp.1;obtain ⟨q3,q4⟩:=a1y h hm hu.2 h2 hp.2
  exact ⟨⟨q1,q3⟩,fun hb=>by
   rw [bpq] at hb
   exact ⟨q2 hb.1,q4 hb.2⟩⟩
 | [],_ :: _,hu,_,_,_,_,_=>hu.elim
 | _ :: _,[],hu,_,_,_,_,_=>hu.elim
def aph (h:ah w0 nt c s a w) (hm:a04 w0 c w m) {x:HV} {u:Value} (hu:bm c s.o x u) {p:Prop} {y:PV} {b:Bool} (hv:a9l s.o x = some (p,y,b)) (hp:p):
 ay m y u /\ (b = false -> ay c.imm y u):=by
 unfold a9l at hv;split at hv
 · rename_i id off
   split at hv <;> try (cases hv;done)
   rename_i l hl;split at hv <;> try (cases hv;done)
   rename_i q ys bb hvl;simp only [bmk,bmu] at hv;obtain ⟨rfl,rfl,rfl⟩:=hv;refine ⟨?_,fun hb=>by cases hb⟩;obtain ⟨_,_,h3⟩:=hu;obtain ⟨bk,hb,rfl⟩:=h3 l hl;obtain ⟨b',C,e,h1,hblk,h2,h4,h5⟩:=h.objs id _ hl;rw [hb] at h1;simp only [Value.pointer.injEq,bmk,Addr.mk.injEq,and_true] at h1;subst h1;obtain ⟨q1,_⟩:=a1y h hm (h5.drop off) hvl hp;refine ⟨bk,off,rfl,fun j hj=>?_⟩;obtain ⟨v,hv,hr⟩:=q1.get j ys[j] (bml hj);refine ⟨v,aak hm (h.fsep id _ bk hl (by rw [hblk];rfl)) ?_,by simpa [List.getD,bml hj] using hr⟩;rw [cell_of_row w bk (off + j) C e (0,0) h4];rw [boy] at hv;simpa using hv
 exact aaa h hm hu hv hp
def aan (h:ah w0 nt c s a w) (hm:a04 w0 c w m) {x:HC} {u:Value} (hu:fw c s.o x u) {p:Prop} {y:PC} {b:Bool} (hv:a1o s.o x = some (p,y,b)) (hp:p):
 iu m y u /\ (b = false -> iu c.imm y u):=by
 unfold a1o at hv;split at hv
 · split at hv <;> try (cases hv;done)
   rename_i hvp;simp only [bmk,bmu] at hv;obtain ⟨rfl,rfl,rfl⟩:=hv;exact aph h hm hu hvp hp
 split at hv <;> try (cases hv;done)
 rename_i hvl;simp only [bmk,bmu] at hv;obtain ⟨rfl,rfl,rfl⟩:=hv;obtain ⟨us,rfl,hl⟩:=hu;obtain ⟨q1,q2⟩:=a1y h hm hl hvl hp;exact ⟨⟨us,rfl,q1⟩,fun hb=>⟨us,rfl,q2 hb⟩⟩
def a3d (h:ah w0 nt c s a w) (hm:a04 w0 c w m):∀ {xs:List Operand} {p:Prop} {ys:List PC} {b:Bool} (_:ku s.o (ev s) xs = some (p,ys,b)) (_:p),
 cn m ys (xs.map a.eval) /\ (b = false -> cn c.imm ys (xs.map a.eval))
 | [],p,ys,b,hv,_=>by
  simp only [ku,bmk,bmu] at hv;obtain ⟨_,rfl,_⟩:=hv;exact ⟨trivial,fun _=>trivial⟩
 | x :: xs,p,ys,b,hv,hp=>by
  simp only [ku] at hv;split at hv <;> try (cases hv;done)
  rename_i cc q ys2 b2 hx h2;split at hv <;> try (cases hv;done)
  rename_i p1 y1 b1 h1;simp only [bmk,bmu] at hv;obtain ⟨rfl,rfl,rfl⟩:=hv;obtain ⟨q1,q2⟩:=aan h hm (af h hx) h1 hp.1;obtain ⟨q3,q4⟩:=a3d h hm h2 hp.2
  exact ⟨⟨q1,q3⟩,fun hb=>by
   rw [bpq] at hb
   exact ⟨q2 hb.1,q4 hb.2⟩⟩
def uw {caps:Nat -> PV}:∀ (n i:Nat) (cs:List Value),cs.length = i + n -> (∀ j,j < i + n -> ∃ x,cs[j]? = some x /\ ay m (caps j) x) -> cn m (it caps n i) (cs.drop i)
 | 0,i,cs,hl,_=>by
  rw [bqp bqx];trivial
 | n + 1,i,cs,hl,h=>by
  rw [bpo bqx];obtain ⟨x,hx,hr⟩:=h i bqx;rw [bml bqx] at hx;simp only [bmk] at hx;subst hx;exact ⟨hr,uw n (i + 1) cs bqx fun j hj=>h j bqx⟩
def cn.append:∀ {xs ys:List PC} {us vs:List Value},cn m xs us -> cn m ys vs -> cn m (xs ++ ys) (us ++ vs)
 | [],_,[],_,_,h=>h
 | _ :: _,_,_ :: _,_,h,k=>⟨h.1,cn.append h.2 k⟩
 | [],_,_ :: _,_,h,_=>h.elim
 | _ :: _,_,[],_,h,_=>h.elim
end
end
def HC.ids:HC -> List Nat
 | .one h=>h.ids
 | .agg l=>m8 l
def a5n:List HC -> List Nat
 | []=>[]
 | x :: r=>x.ids ++ a5n r
def HR.ids:HR -> List Nat
 | .v x=>x.ids
 | .tup l=>a5n l
def aa.ids:aa -> List Nat
 | .mp ..=>[]
 | .bld ..=>[]
 | .box l=>m8 l
 | .arr ..=>[]
 | .arrh _ _ _ ms _=>ms
 | .nest _ _ _ _ _ _ (some p)=>[p.1]
 | .nest _ _ _ _ _ _ none=>[]
theorem HC.men_ids {x:HC} {k:Nat} (h:x.men k):k ∈ x.ids:=by
 cases x with
 | one h'=>exact HV.men_ids h
 | agg l=>exact qc h
def ait:∀ {l:List HC} {k:Nat},(∃ h ∈ l,h.men k) -> k ∈ a5n l
 | [],_,⟨_,h,_⟩=>by cases h
 | x :: r,k,⟨h,hm,hk⟩=>by
  rcases bn0.1 hm with rfl | hm
  · exact bn5 _ (HC.men_ids hk)
  exact bna _ (ait ⟨h,hm,hk⟩)
theorem HR.men_ids {x:HR} {k:Nat} (h:x.men k):k ∈ x.ids:=by
 cases x with
 | v x=>exact HC.men_ids h
 | tup l=>exact ait h
def aa.men_ids {x:aa} {k:Nat} (h:x.men k):k ∈ x.ids:=by
 cases x with
 | mp kk n f=>exact h.elim
 | bld fr T e l=>exact h.elim
 | box l=>exact qc h
 | arr wr s e n f=>exact h.elim
 | arrh s e n ms f=>exact h
 | nest e et es n m g pd=>cases pd with | none=>exact h.elim | some p=>exact bn2.2 h
def dv (e:Ev):List Operand -> List Nat
 | []=>[]
 | x :: r=>(match e x with | some v=>v.ids | none=>[]) ++ dv e r
structure Ann where
 id:Nat
 wb:Bool
 ex:Bool
 res:PR
 W:List Nat
 N:List Nat
 M:List Nat
def b4 (ops:Array Oper) (s:S) (o:Oper):Option Bool :=
 match o.guard with
 | none=>some true
 | some (j,want) =>
  match (ops[j]?).bind (·.dst) with
  | some d=>match s.t d with | some (.v (.one (.p (.raw (.bool b)))))=>some (b == want) | some (.tup [])=>some false | _=>none
  | none=>none
def dp (nt:Nat):Option Tmp -> Bool
 | none=>true
 | some d=>decide (d < nt)
def pvN (f:Nat -> PV):Nat -> Nat -> List PV
 | 0,_=>[]
 | n + 1,i=>f i :: pvN f n (i + 1)
def aiy {m:Imm} {f:Nat -> PV}:∀ (n i:Nat) (cs:List Value),cs.length = i + n -> (∀ j,j < i + n -> ∃ x,cs[j]? = some x /\ ay m (f j) x) -> f5 m (pvN f n i) (cs.drop i)
 | 0,i,cs,hl,_=>by
  rw [bqp bqx];trivial
 | n + 1,i,cs,hl,h=>by
  obtain ⟨x,hx,hr⟩:=h i bqx;have hlt:i < cs.length:=by omega
  rw [bpo hlt];rw [bml hlt] at hx;simp only [bmk] at hx;rw [hx];exact ⟨hr,aiy n (i + 1) cs bqx fun j hj=>h j bqx⟩
def callee (e:Ev) (cl:Call):Option (FuncId × List PC × List PC) :=
 match cl.callee with
 | .value f =>
  match e f with
  | some (.v (.one (.p (.fn g k caps))))=>some (g,[],it caps k 0)
  | some (.v (.one (.p (.bnd g m fr))))=>some (g,[.agg (pvN fr m 0)],[])
  | _=>none
 | _=>none
def af3 (caps:Nat -> HV):Nat -> Nat -> List HC
 | 0,_=>[]
 | n + 1,i=>.one (caps i) :: af3 caps n (i + 1)
def x3 (e:Ev) (cl:Call):Option (FuncId × List HC) :=
 match cl.callee with
 | .value f =>
  match e f with
  | some (.v (.one (.p (.fn g k caps))))=>some (g,(it caps k 0).map PC.toH)
  | some (.v (.one (.clo g k caps)))=>some (g,af3 caps k 0)
  | _=>none
 | _=>none
def goodFn (P : Program) (f : FuncId) : Prop := ∃ fn, P.funcs[f]? = some fn /\ (fn.name == "runtime.NumGoroutine") = false /\ fn.body.isNone = false
theorem S.setW_one (s:S) (id:Nat) (ob:aa):s.setW [(id,some ob)] = s.setO id (some ob):=by
 unfold S.setW S.setO;simp only [S.mk.injEq,true_and];funext k;by_cases hk:k = id
 · subst hk;simp [iw]
 have:Nat.beq id k = false:=by
  rw [bmx];exact fun hb=>hk (bni hb).symm
 simp [iw,this,hk]
theorem S.setW_none (s:S) (id:Nat):s.setW [(id,none)] = s.setO id none:=by
 unfold S.setW S.setO;simp only [S.mk.injEq,true_and];funext k;by_cases hk:k = id
 · subst hk;simp [iw]
 have:Nat.beq id k = false:=by
  rw [bmx];exact fun hb=>hk (bni hb).symm
 simp [iw,this,hk]
def sv (e:Ev):List Operand -> Option (List HC)
 | []=>some []
 | x :: r =>
  match e x,sv e r with
  | some (.v cc),some l=>some (cc :: l)
  | _,_=>none
def ab7:List (Nat × aa) -> List Nat
 | []=>[]
 | (_,x) :: r=>x.ids ++ ab7 r
def aml (w:World) (o:Obj) {k:Nat} (h:k < w.heap.size):(w.drew.alloc o).heap[k]? = w.heap[k]?:=by
 show (w.heap.push o)[k]? = w.heap[k]?;rw [bqq h,bnm h]
def aur (b:ByteArray):Nat -> Nat -> PV:=fun i _=>.raw (.int .u8 (lv b i))
def acq (E:Env) (e:Ev) (sr ds:TypeId) (x:Operand):Option ByteArray :=
 match E sr,E ds,e x with
 | some ti,some td,some (.v (.one (.p (.raw (.string b))))) =>
  match ti.k,td.k with
  | .string, .slice el =>
   match E el with
   | some ei=>match ei.k with | .int .u8=>some b | _=>none
   | none=>none
  | _,_=>none
 | _,_,_=>none
inductive Eff (P:Program) (E:Env) (nt:Nat) (ops:Array Oper) (o:Oper) (an:Ann) (s:S):Option HR -> Wr -> Prop where
 | cut (out:Out) (id:Nat) (hw:b4 ops s o = some true) (hd:dp nt o.dst = true) (hq':yn E s.o (ev s) o.op = some (out,id)) (hp:out.pre) (hW:an.W = [id]):Eff P E nt ops o an s (some out.val) [(id,none)]
 | skip (hw:b4 ops s o = some false) (hd:dp nt o.dst = true):Eff P E nt ops o an s (some (.tup [])) []
 | quiet (out:Out) (hw:b4 ops s o = some true) (hd:dp nt o.dst = true) (hq':hq E an.ex s.o (ev s) o.op = some out) (hp:out.pre) (hM:out.val.ids = an.M):Eff P E nt ops o an s (some out.val) []
 | make (nw:New) (hw:b4 ops s o = some true) (hd:dp nt o.dst = true) (hq':ha E (ev s) an.id o.op = some nw) (hp:nw.pre) (hm:NM s an.id) (hn:s.o an.id = none)
  (hW:an.W = [an.id]) (hN:an.N = [an.id]) (hM:nw.val.ids ++ nw.ob.ids = an.M):Eff P E nt ops o an s (some nw.val) [(an.id,some nw.ob)]
 | store (u:Upd) (hw:b4 ops s o = some true) (hd:dp nt o.dst = true) (hq':hs E s.o (ev s) o.op = some u) (hp:u.pre) (hW:an.W = [u.id]) (hM:∀ k ∈ u.ob.ids,k ∈ an.M):Eff P E nt ops o an s none [(u.id,some u.ob)]
 | app (u:App) (hw:b4 ops s o = some true) (hd:dp nt o.dst = true) (hq':hap E s.o (ev s) an.id an.wb o.op = some u) (hp:u.pre) (hn:u.new = true -> NM s an.id /\ s.o an.id = none)
  (hW:an.W = [u.id]) (hN:u.new = true -> an.N = [an.id]) (hM:u.val.ids ++ u.ob.ids = an.M):Eff P E nt ops o an s (some u.val) [(u.id,some u.ob)]
 | call (cl:Call) (f:FuncId) (fst caps args:List PC) (p:Prop) (vs:List PC) (b:Bool) (hw:b4 ops s o = some true) (hd:dp nt o.dst = true) (ho:o.op = .call cl) (hc:callee (ev s) cl = some (f,fst,caps)) (hf:goodFn P f)
  (hv:ku s.o (ev s) cl.args.toList = some (p,vs,b)) (hp:p) (hco:CoL (fst ++ (vs ++ caps)) args) (hpure:a6 P f args an.res) (hb:(!b || an.res.flat) = true) (hM:an.M = []):Eff P E nt ops o an s (some an.res.toH) []
 | conv (sr ds:TypeId) (x:Operand) (b:ByteArray) (hw:b4 ops s o = some true) (hd:dp nt o.dst = true) (ho:o.op = .convert sr ds x) (hcv:acq E (ev s) sr ds x = some b) (hp:b.size <= maxLen) (hM:an.M = []) :
  Eff P E nt ops o an s (some (.v (.one (.p (.sl b.size 1 false (aur b)))))) []
 | fcall (cl:Call) (f:FuncId) (caps:List HC) (args hcs:List HC) (o1 o2:List (Nat × aa)) (res:HR) (fx:List Nat) (hw:b4 ops s o = some true) (hd:dp nt o.dst = true) (ho:o.op = .call cl) (hc:x3 (ev s) cl = some (f,caps)) (hf:goodFn P f)
  (hv:sv (ev s) cl.args.toList = some hcs) (hco:v6 (hcs ++ caps) args) (hfun:cb P f args o1 res o2 fx) (hsub:∀ id ob,lk o1 id = some ob -> ∃ ob',s.o id = some ob' /\ CoO ob' ob)
  (hnew:∀ id ∈ da o2,id ∉ da o1 -> s.o id = none) (hnm:∀ id ∈ da o2,id ∉ fx \/ id ∉ da o1 -> NMx s (da o1 ++ da o2) id) (hcl:∀ id ob,lk o2 id = some ob -> ∀ k,ob.men k -> k ∈ da o2) (hclr:∀ k,res.men k -> k ∈ da o2)
  (hW:an.W = da o1 ++ da o2) (hN:∀ id ∈ da o2,id ∉ fx \/ id ∉ da o1 -> id ∈ an.N) (hM:an.M = res.ids ++ ab7 o2):Eff P E nt ops o an s (some res) (yb o1 o2)
def akt:∀ (l:List PV),m8 (l.map .p) = []
 | []=>rfl
 | _ :: r=>by simp [m8,HV.ids,akt r]
def ahh:∀ (l:List PC),a5n (l.map PC.toH) = []
 | []=>rfl
 | .one _ :: r=>by simp [a5n,HC.ids,PC.toH,HV.ids,ahh r]
 | .agg l :: r=>by simp [a5n,HC.ids,PC.toH,akt l,ahh r]
theorem PR.ids_toH (x:PR):x.toH.ids = []:=by
 cases x with
 | v x=>cases x <;> simp [PR.toH,HR.ids,PC.toH,HC.ids,HV.ids,akt]
 | tup l=>simp [PR.toH,HR.ids,ahh]
def S.after (s:S) (d:Option Tmp) (x:Option HR) (wr:Wr):S:=(s.setW wr).putD d x
def rf (ro:Option Nat):Fence:={ fn:=fun _=>True,depth:=none,alive:=false,round:=ro }
section
variable {P:Program} {ro:Option Nat}
def av5 {n:Nat} {f:FuncId} {args:Array Value} {w:World} {R:Ending -> World -> Prop} (h:Calls P f args w R):CallsIn (rf ro) n P f args w R:=(callsIn_wide (n:=n)).2 h
def awb {n:Nat} {row:String} {args:Array Value} {w:World} {R:Value -> World -> Prop} (h:Rows P row args w R):RowsIn (rf ro) n P row args w R:=fun c cs _=>by
 obtain ⟨v,w',r,s⟩:=h c cs;exact ⟨v,w',r,stepsIn_wide.2 s⟩
def aae {n:Nat} {o:Oper} {a:Act} {w:World} {K:Act -> World -> Prop} {Q:Exit -> Act -> World -> Prop} (hnd:∀ c,o.op ≠ .defer c) (h:o.wp P a w K Q):o.wpIn (rf ro) n P a w K Q:=by
 refine ⟨fun _ _=>trivial, ?_⟩;rw [Oper.semAt_eq _ _ _ hnd];unfold Oper.wp at h;generalize (execOp a.eval o).run P w = r at *
 cases r with
 | ok x w' =>
  cases x <;> simp only [Oper.upon,Oper.uponIn] at h ⊢ <;>
   first
    | exact h
    | exact ⟨(fun hh=>absurd hh (by simp [rf])),av5 h⟩
    | exact ⟨(fun hh=>absurd hh (by simp [rf])),awb h⟩
    | exact h.elim
 | halt x w'=>cases x <;> simp only [Oper.upon,Oper.uponIn] at h ⊢ <;> first | exact h | exact h.elim
def at7 (P:Program) (ops:Array Oper) (Q:Exit -> Act -> World -> Prop) (i:Nat) (K:Act -> World -> Prop) (a:Act) (w:World):Prop :=
 match ops[i]? with
 | none=>K a w
 | some o=>if Region.wanted o (yielded ops a.tmps) then o.wp P a w K Q else K (a.put o.dst undef) w
theorem Eff.nd {E:Env} {nt:Nat} {ops:Array Oper} {o:Oper} {an:Ann} {s:S} {x:Option HR} {wr:Wr} (he:Eff P E nt ops o an s x wr):b4 ops s o = some false \/ ∀ c,o.op ≠ .defer c:=by
 cases he with
 | skip hw hd=>exact .inl hw
 | cut out id hw hd hq' hp hW=>exact .inr fun c hc=>by rw [hc] at hq';cases hq'
 | quiet out hw hd hq' hp hM=>exact .inr fun c hc=>by rw [hc] at hq';cases hq'
 | make nw hw hd hq' hp hm hn hW hN hM=>exact .inr fun c hc=>by rw [hc] at hq';cases hq'
 | store u hw hd hq' hp hW hM=>exact .inr fun c hc=>by rw [hc] at hq';cases hq'
 | app u hw hd hq' hp hn hW hN hM=>exact .inr fun c hc=>by rw [hc] at hq';cases hq'
 | call cl f fst caps args p vs b hw hd ho hc hf hv hp hco hpure hb hM=>exact .inr fun c hc=>by rw [hc] at ho;cases ho
 | conv sr ds x b hw hd ho hcv hp hM=>exact .inr fun c hc=>by rw [hc] at ho;cases ho
 | fcall cl f caps args hcs o1 o2 res fx hw hd ho hc hf hv hco hfun hsub hnew hnm hcl hclr hW hN hM=>exact .inr fun c hc=>by rw [hc] at ho;cases ho
end
section
variable {P:Program} {E:Env} {w0:World} {m0:Old} {nt:Nat} {s:S} {a:Act} {w:World} {ops:Array Oper} {o:Oper} {an:Ann}
def jq (h:dp nt o.dst = true):∀ k,o.dst = some k -> k < nt:=by
 intro k hk;rw [hk] at h;exact of_decide_eq_true h
def f7 {c:Ctx} (h:ah w0 nt c s a w) {b:Bool} (hw:b4 ops s o = some b):Region.wanted o (yielded ops a.tmps) = b:=by
 unfold b4 at hw;unfold Region.wanted;split at hw
 · rename_i hg
   simp only [bmk] at hw;rw [hg,hw]
 rename_i j want hg;rw [hg];split at hw <;> try (cases hw;done)
 rename_i d hd;split at hw <;> try (cases hw;done)
 rotate_left
 · rename_i hb
   simp only [bmk] at hw;obtain ⟨us,e1,e2⟩:=h.tmps d _ hb
   have e3:us = []:=by cases us with | nil=>rfl | cons=>exact e2.elim
   subst e3;show (yielded ops a.tmps j == some want) = b
   have hy:yielded ops a.tmps j = none:=by
    unfold yielded;rw [hd];simp only [Option.bind_some]
    rcases bpy d a.tmps.size with h' | h'
    · have:a.tmps[d]? = some (.tuple #[]):=by
       rw [bnm h',<- e1];simp [h']
      simp [this]
    simp [bp1 h']
   rw [hy,<- hw];rfl
 rename_i bb hb;simp only [bmk] at hw;obtain ⟨e1,_⟩:=h.tmps d _ hb
 have hsz:d < a.tmps.size:=by
  rcases bpy d a.tmps.size with h' | h'
  · exact h'
  have:a.tmps.getD d undef = undef:=by simp [bp1 h']
  rw [this] at e1;cases e1
 have:a.tmps[d]? = some (.bool bb):=by
  rw [bnm hsz];rw [<- e1];simp [hsz]
 have hy:yielded ops a.tmps j = some bb:=by
  unfold yielded;rw [hd];simp [this]
 show (yielded ops a.tmps j == some want) = b;rw [hy,<- hw];cases bb <;> cases want <;> rfl
def c5.append {c:Ctx} {o:b6}:∀ {xs ys:List HC} {us vs:List Value},c5 c o xs us -> c5 c o ys vs -> c5 c o (xs ++ ys) (us ++ vs)
 | [],_,[],_,_,h=>h
 | _ :: _,_,_ :: _,_,h,k=>⟨h.1,c5.append h.2 k⟩
 | [],_,_ :: _,_,h,_=>h.elim
 | _ :: _,_,[],_,h,_=>h.elim
def a60 {c:Ctx} {o:b6} {caps:Nat -> HV}:∀ (n i:Nat) (cs:List Value),cs.length = i + n -> (∀ j,j < i + n -> ∃ x,cs[j]? = some x /\ bm c o (caps j) x) -> c5 c o (af3 caps n i) (cs.drop i)
 | 0,i,cs,hl,_=>by
  rw [bqp bqx];trivial
 | n + 1,i,cs,hl,h=>by
  rw [bpo bqx];obtain ⟨x,hx,hr⟩:=h i bqx;rw [bml bqx] at hx;simp only [bmk] at hx;subst hx;exact ⟨hr,a60 n (i + 1) cs bqx fun j hj=>h j bqx⟩
def aal {c:Ctx} (h:ah w0 nt c s a w):∀ {l:List Operand} {hcs:List HC},sv (ev s) l = some hcs -> c5 c s.o hcs (l.map a.eval)
 | [],hcs,hv=>by
  simp only [sv,bmk] at hv;subst hv;trivial
 | x :: r,hcs,hv=>by
  simp only [sv] at hv;split at hv <;> try (cases hv;done)
  rename_i cc l e1 e2;simp only [bmk] at hv;subst hv;exact ⟨af h e1,aal h e2⟩
section
variable {K:Act -> World -> Prop} {Q:Exit -> Act -> World -> Prop}
def atp (hE:d7 P E) {x:Option HR} {wr:Wr} (he:Eff P E nt ops o an s x wr) (h:Rel w0 m0 nt s a w) {i:Nat} (hi:ops[i]? = some o) (hK:∀ a' w',Rel w0 m0 nt (s.after o.dst x wr) a' w' -> K a' w'):at7 P ops Q i K a w:=by
 obtain ⟨c,hold,h⟩:=h;unfold at7;simp only [hi]
 cases he with
 | cut out id hw hd hq' hp hW =>
  rw [if_pos (f7 h hw)];obtain ⟨v,c',h1,hold',h2,h3⟩:=apy hE h hq' hp;unfold Oper.wp;rw [h1];refine hK _ _ ⟨c',hold'.trans hold, ?_⟩
  have e:s.after o.dst (some out.val) [(id,none)] = (s.setO id none).putD o.dst (some out.val):=by
   unfold S.after;rw [S.setW_none]
  rw [e]
  exact h2.putD o.dst (jq hd) (some out.val) v (fun y hy=>by
   simp only [bmk] at hy;subst hy
   exact h3)
 | skip hw hd =>
  rw [if_neg (by rw [f7 h hw];simp)];exact hK _ _ ⟨c,hold,h.putD o.dst (jq hd) (some (.tup [])) undef (fun y hy=>by cases hy;exact ⟨[],rfl,trivial⟩)⟩
 | quiet out hw hd hq' hp hM =>
  rw [if_pos (f7 h hw)];obtain ⟨v,h1,h2⟩:=al1 hE h hq' hp;unfold Oper.wp;rw [h1]
  exact hK _ _ ⟨c,hold,h.putD o.dst (jq hd) (some out.val) v (fun y hy=>by
   simp only [bmk] at hy;subst hy
   exact h2)⟩
 | make nw hw hd hq' hp hm hn hW hN hM =>
  rw [if_pos (f7 h hw)];obtain ⟨v,w',c',h1,ho',h2,h3⟩:=b32 hE h hq' hp hm hn;have hold':=ho'.trans hold;unfold Oper.wp;rw [h1]
  exact hK _ _ ⟨c',hold',(by unfold S.after;rw [S.setW_one];exact h2.putD o.dst (jq hd) (some nw.val) v (fun y hy=>by
   simp only [bmk] at hy;subst hy
   exact h3))⟩
 | store u hw hd hq' hp hW hM =>
  rw [if_pos (f7 h hw)];obtain ⟨w',c',h1,ho',h2⟩:=b0o hE h hq' hp;have hold':=ho'.trans hold;unfold Oper.wp;rw [h1];exact hK _ _ ⟨c',hold',(by unfold S.after;rw [S.setW_one];exact h2.putD o.dst (jq hd) none undef (fun y hy=>by cases hy))⟩
 | app u hw hd hq' hp hn hW hN hM =>
  rw [if_pos (f7 h hw)];obtain ⟨v,w',c',h1,⟨ho',h2⟩,h3⟩:=ay9 hE h hq' hp hn;have hold':=ho'.trans hold;unfold Oper.wp;rw [h1]
  exact hK _ _ ⟨c',hold',(by unfold S.after;rw [S.setW_one];exact h2.putD o.dst (jq hd) (some u.val) v (fun y hy=>by
   simp only [bmk] at hy;subst hy
   exact h3))⟩
 | conv sr ds x b hw hd ho hcv hp hM =>
  rw [if_pos (f7 h hw)];unfold acq at hcv;split at hcv <;> try (cases hcv;done)
  rename_i ti td b' e1 e2 e3;split at hcv <;> try (cases hcv;done)
  rename_i el e4 e5;split at hcv <;> try (cases hcv;done)
  rename_i ei e6;split at hcv <;> try (cases hcv;done)
  rename_i e7;simp only [bmk] at hcv;subst hcv;obtain ⟨_,d1,_,p1,q1,_⟩:=b8 (hE sr ti e1);obtain ⟨_,d2,_,p2,q2,_⟩:=b8 (hE ds td e2);obtain ⟨_,d3,_,p3,q3,_⟩:=b8 (hE el ei e6);have r1:d1 = .string:=by rw [e4] at q1;cases d1 <;> simp [ky] at q1 ⊢
  have r2:d2 = .slice el:=ew (q2.symm.trans e5)
  have r3:d3 = .int .u8:=by
   rw [e7] at q3;cases d3 <;> simp [ky] at q3 ⊢;exact q3.symm
  subst r1 r2 r3;have hev:a.eval x = .string b':=(af h e3).1;have hrun:=run_bytes_of_string (P:=P) w sr ds el b' p1 p2 p3
  have hex:(execOp a.eval o).run P w = .ok (.value (.slice (some ⟨w.heap.size,0,none⟩) b'.size (grownCap w b'.size 0 el)))
   (w.drew.alloc (.cells (bytesRow b' (grownCap w b'.size 0 el)) el ((bytesRow b' (grownCap w b'.size 0 el)).size,(bytesRow b' (grownCap w b'.size 0 el)).size + 1))):=by
   unfold execOp;simp only [ho,hev,bnw,hrun,bn8,boi]
  unfold Oper.wp;rw [hex];generalize hob:Obj.cells (bytesRow b' (grownCap w b'.size 0 el)) el ((bytesRow b' (grownCap w b'.size 0 el)).size,(bytesRow b' (grownCap w b'.size 0 el)).size + 1) = ob
  have h':=h.later (w.drew.alloc ob) ⟨rfl,rfl,rfl,by simp,fun k hk=>aml w _ hk,bpp _⟩ (fun k=>if k = w.heap.size then some ob else c.imm k) (fun k hk=>if_neg bqx) (fun k ob' hk=>by
   by_cases hkk:k = w.heap.size
   · rw [if_pos hkk] at hk
     rw [hkk,<- Option.some.inj hk];exact heap_alloc_new w.drew _
   rw [if_neg hkk] at hk;have hw':=h.imm k ob' hk
   exact (aml w _ (bmr.1 hw').1).trans hw')
  refine hK _ _ ⟨_,by exact hold,h'.putD o.dst (jq hd) (some (.v (.one (.p (.sl b'.size 1 false (aur b')))))) _ (fun y hy=>?_)⟩;simp only [bmk] at hy;subst hy;refine ⟨some ⟨w.heap.size,0,none⟩,_,rfl,grownCap_ge w _ _ _,grownCap_le_maxLen w _ _ _ hp,(fun hf=>by cases hf),fun _=>⟨w.heap.size,0,rfl,fun i j hi hj=>?_⟩⟩;obtain rfl:j = 0:=by omega
  refine ⟨.int .u8 (lv b' i), ?_,rfl,rfl⟩;unfold jw;dsimp only;rw [if_pos rfl,<- hob];dsimp only;unfold bytesRow lv;have hsz:b'.data.size = b'.size:=rfl;rw [bq3 br8];have hlt:i < b'.data.size:=by omega
  simp;exact ⟨b'.data[i],by simp,by simp [bnm hlt]⟩
 | call cl f fst caps args p vs b hw hd ho hc hf hv hp hco hpure hb hM =>
  rw [if_pos (f7 h hw)];obtain ⟨fn,hfn,hname,hbody⟩:=hf;obtain ⟨q1,q2⟩:=a3d h (b0k h) hv hp
  obtain ⟨fo,us,cs,hcal,e1,hfst,hcapr⟩:∃ (fo:Operand) (us cs:List Value),cl.callee = .value fo /\ a.eval fo = .func (.func f) us.toArray cs.toArray /\ (∀ m:Imm,Imm.le c.imm m -> cn m fst us) /\ ∀ m:Imm,Imm.le c.imm m -> cn m caps cs:=by
   unfold callee at hc;split at hc <;> try (cases hc;done)
   rename_i fo hcal;split at hc <;> try (cases hc;done)
   · rename_i g k capf hfo
     simp only [bmk,bmu] at hc;obtain ⟨rfl,rfl,rfl⟩:=hc;obtain ⟨cs,e1,hcl,hcr⟩:=af h hfo;refine ⟨fo,[],cs,hcal,e1,fun _ _=>trivial,fun m hm=>?_⟩
     have:=uw (m:=m) (caps:=capf) k 0 cs bqx (fun j hj=>by
      obtain ⟨x,hx,hr⟩:=hcr j bqx
      exact ⟨x,hx,ay.mono hm hr⟩)
     simpa using this
   rename_i g k fr hfo;simp only [bmk,bmu] at hc;obtain ⟨rfl,rfl,rfl⟩:=hc;obtain ⟨cs,e1,hcl,hcr⟩:=af h hfo;refine ⟨fo,[.agg cs.toArray],[],hcal,e1,fun m hm=>⟨⟨cs,rfl, ?_⟩,trivial⟩,fun _ _=>trivial⟩
   have:=aiy (m:=m) (f:=fr) k 0 cs bqx (fun j hj=>by
    obtain ⟨x,hx,hr⟩:=hcr j bqx
    exact ⟨x,hx,ay.mono hm hr⟩)
   simpa using this
  have hrun:(execOp a.eval o).run P w = .ok (.enter f (us ++ ((cl.args.toList.map a.eval) ++ cs)).toArray) w:=by
   unfold execOp;simp only [ho,resolve,hcal,bnw,e1,Deferred.ofValue,boi,bn8,invoke,callFunc,run_program,hfn,hname,hbody];simp
  unfold Oper.wp;rw [hrun];rw [Oper.upon_enter]
  cases hbb:b with
  | false =>
   have hargs:cn c.imm args (us ++ (cl.args.toList.map a.eval ++ cs)):=CoL.sound hco (cn.append (hfst _ (Imm.le.refl _)) (cn.append (q2 hbb) (hcapr _ (Imm.le.refl _))));refine (hpure w c.imm _ c.tab h.imm hargs).mono ?_;rintro e w' ⟨v,imm',rfl,hr,h1,h2,h3⟩;have h':=h.later w' h3 imm' h1 h2
   exact hK _ _ ⟨_,by exact hold,h'.putD o.dst (jq hd) (some an.res.toH) v (fun y hy=>by
    simp only [bmk] at hy;subst hy
    exact am.of_P hr)⟩
  | true =>
   have hflat:an.res.flat = true:=by rw [hbb] at hb;simpa using hb
   have hargs:cn (gw w) args (us ++ (cl.args.toList.map a.eval ++ cs)):=CoL.sound hco (cn.append (hfst _ (yp h)) (cn.append q1 (hcapr _ (yp h))));refine (hpure w (gw w) _ (c.tab.mono (yp h)) (fun _ _ hh=>hh) hargs).mono ?_;rintro e w' ⟨v,imm',rfl,hr,h1,h2,h3⟩
   have h':=h.later w' h3 (fun b=>if b < w.heap.size then c.imm b else none) (fun b hb=>by simp [hb]) (fun b ob hbo=>by
    by_cases hlt:b < w.heap.size
    · simp only [hlt,if_true] at hbo
      rw [h3.block b hlt];exact h.imm b ob hbo
    simp [hlt] at hbo)
   exact hK _ _ ⟨_,by exact hold,h'.putD o.dst (jq hd) (some an.res.toH) v (fun y hy=>by
    simp only [bmk] at hy;subst hy
    exact am.of_P (so.flat hflat hr))⟩
 | fcall cl f caps args hcs o1 o2 res fx hw hd ho hc hf hv hco hfun hsub hnew hnm hcl hclr hW hN hM =>
  rw [if_pos (f7 h hw)];unfold x3 at hc;split at hc <;> try (cases hc;done)
  rename_i fo hcal;obtain ⟨fn,hfn,hname,hbody⟩:=hf
  obtain ⟨cs,e1,hcapr⟩:∃ cs:List Value,a.eval fo = .func (.func f) #[] cs.toArray /\ c5 c s.o caps cs:=by
   split at hc <;> try (cases hc;done)
   · rename_i g k capf hfo
     simp only [bmk,bmu] at hc;obtain ⟨rfl,rfl⟩:=hc;obtain ⟨cs,e1,hcl',hcr⟩:=af h hfo;refine ⟨cs,e1, ?_⟩
     have:=uw (m:=c.imm) (caps:=capf) k 0 cs bqx (fun j hj=>by
      obtain ⟨x,hx,hr⟩:=hcr j bqx
      exact ⟨x,hx,hr⟩)
     exact c5.of_P (by simpa using this)
   rename_i g k capf hfo;simp only [bmk,bmu] at hc;obtain ⟨rfl,rfl⟩:=hc;obtain ⟨cs,e1,hcl',hcr⟩:=af h hfo;refine ⟨cs,e1, ?_⟩;have:=a60 (c:=c) (o:=s.o) (caps:=capf) k 0 cs bqx (fun j hj=>hcr j bqx);simpa using this
  have hrun:(execOp a.eval o).run P w = .ok (.enter f ((cl.args.toList.map a.eval) ++ cs).toArray) w:=by
   unfold execOp;simp only [ho,resolve,hcal,bnw,e1,Deferred.ofValue,boi,bn8,invoke,callFunc,run_program,hfn,hname,hbody];simp
  have hargs:c5 c s.o args (cl.args.toList.map a.eval ++ cs):=c5.co hco (c5.append (aal h hv) hcapr);obtain ⟨hmem,hto⟩:=h.lend hsub;unfold Oper.wp;rw [hrun];rw [Oper.upon_enter];refine (hfun w c _ hmem (hto _ _ hargs)).mono ?_;rintro e w' ⟨v,c',rfl,hr,hm',hbel,hfr,hbk,hfx⟩;obtain ⟨c'',q1,_,q2,q3⟩:=h.fcall hsub (fun id h2 h1=>hnew id h2 h1) (fun id h2 h1=>hnm id h2 h1) hcl hm' hbel hfr hbk hfx
  exact hK _ _ ⟨c'',q1.trans hold,q2.putD o.dst (jq hd) (some res) v (fun y hy=>by
   simp only [bmk] at hy;subst hy
   exact q3 _ _ hr hclr)⟩
def a7x (hE:d7 P E) {ro:Option Nat} {n:Nat} {x:Option HR} {wr:Wr} (he:Eff P E nt ops o an s x wr) (h:Rel w0 m0 nt s a w) {i:Nat} (hi:ops[i]? = some o) (hK:∀ a' w',Rel w0 m0 nt (s.after o.dst x wr) a' w' -> K a' w'):wpOpIn (rf ro) n P ops Q i K a w:=by
 have h1:=atp hE he h hi (Q:=Q) hK;unfold at7 at h1;unfold wpOpIn;simp only [hi] at h1 ⊢;obtain ⟨c,hold,hr⟩:=h
 rcases he.nd with hn | hn
 · have hw:=f7 hr hn
   rw [if_neg (by rw [hw];simp)] at h1 ⊢;exact ⟨fun _ _=>trivial,h1⟩
 split
 · rename_i hw
   rw [if_pos hw] at h1;exact aae hn h1
 rename_i hw;rw [if_neg hw] at h1;exact ⟨fun _ _=>trivial,h1⟩
end
end
end
section
open Go.RowKit
section
variable {E:Env} {ex:Bool} {o o':b6} {e e':Ev}
section
variable {x:Operand}
def fu {r:HR} (hx:e x = some r):∀ {l:List Operand},x ∈ l -> ∀ k ∈ r.ids,k ∈ dv e l
 | y :: l,hm,k,hk=>by
  rcases bn0.1 hm with rfl | hm
  · simp only [dv,hx];exact bn5 _ hk
  simp only [dv];exact bna _ (fu hx hm k hk)
def sb:∀ {l:List Operand},(∀ x ∈ l,e' x = e x) -> dv e' l = dv e l
 | [],_=>rfl
 | x :: l,h=>by
  simp only [dv];rw [h x br1,sb fun y hy=>h y (by simp [hy])]
def br6 {p:Prop} (h:p:=by simp [HV.ids]):p:=h
variable {h:HV}
def a1d (ho:∀ k ∈ h.ids,o' k = o k):tgt o' h = tgt o h:=by
 cases h with
 | p x=>cases x <;> rfl
 | ref id n=>rfl
 | ptr id off=>simp only [tgt];rw [ho id br6]
 | eptr id n i j=>simp only [tgt];rw [ho id br6]
 | win id n i m=>rfl
 | clo g k caps=>rfl
 | row id i k=>rfl
 | rptr id i k r j=>simp only [tgt];rw [ho id br6]
 | pin id n ad cap=>rfl
def a2n {places:List (Nat × Nat)}:∀ {parts:List (Nat × Operand)} {cells:List HV},(∀ x ∈ parts.map (·.2),e' x = e x) -> j1 e' places cells parts = j1 e places cells parts
 | [],_,_=>rfl
 | (i,x) :: r,cells,h=>by
  have hx:=h x br1;have ih:∀ cells,j1 e' places cells r = j1 e places cells r:=fun cells=>a2n fun y hy=>h y (by simp at hy ⊢;exact .inr hy);simp only [j1,hx,ih]
def aap:∀ {l:List Operand},(∀ x ∈ l,e' x = e x) -> a1v e' l = a1v e l
 | [],_=>rfl
 | x :: l,h=>by
  simp only [a1v];rw [h x br1,aap fun y hy=>h y (by simp [hy])]
def aad:∀ {l:List Operand},(∀ x ∈ l,e' x = e x) -> a1i e' l = a1i e l
 | [],_=>rfl
 | x :: l,h=>by
  simp only [a1i];rw [h x br1,aad fun y hy=>h y (by simp [hy])]
def np {x:Option Operand} (h:∀ y ∈ x.toList,e' y = e y):jm e' x = jm e x:=by
 cases x with
 | none=>rfl
 | some y=>simp only [jm];rw [h y br1]
def aeh {b:Builtin} {args:List Operand} {tys:List TypeId} (h:∀ x ∈ args,e' x = e x):u7 E e' b args tys = u7 E e b args tys:=by
 unfold u7;split
 · rename_i x t r
   rw [h x br1]
 · rename_i x y
   rw [h x br1,h y br1]
 · rename_i x y
   rw [h x br1,h y br1]
 rfl
def au9 (ho:∀ k ∈ h.ids,o' k = o k):a85 o' h = a85 o h:=by
 cases h with
 | ref id n=>simp only [a85];rw [ho id br6]
 | win id n i m=>simp only [a85];rw [ho id br6]
 | row id i k=>simp only [a85];rw [ho id br6]
 | _=>rfl
variable {n:Nat}
def atv {i:Int} (ho:∀ k ∈ h.ids,o' k = o k):aau o' n i h = aau o n i h:=by
 cases h with
 | ref id n=>simp only [aau];rw [ho id br6]
 | win id n i m=>simp only [aau];rw [ho id br6]
 | row id i k=>simp only [aau];rw [ho id br6]
 | p x=>cases x <;> rfl
 | _=>rfl
def alg {x y z:Option Int} (ho:∀ k ∈ h.ids,o' k = o k):a02 o' n x y z h = a02 o n x y z h:=by
 cases h with
 | ref id n=>simp only [a02];rw [ho id br6]
 | win id n i m=>simp only [a02];rw [ho id br6]
 | _=>rfl
def ahn {l:List Operand} {F:b6 -> HV -> Option Out} {α:Type} {d:α} {G:Option Out -> α} (hF:∀ h:HV,(∀ k ∈ h.ids,o' k = o k) -> F o' h = F o h) (hl:x ∈ l) (ho:∀ k ∈ dv e l,o' k = o k):
 (match e x with | some (.v (.one h))=>G (F o' h) | _=>d) = (match e x with | some (.v (.one h))=>G (F o h) | _=>d):=by
 cases hex:e x with
 | none=>rfl
 | some r =>
  cases r with
  | tup l=>rfl
  | v cc =>
   cases cc with
   | agg l=>rfl
   | one h =>
    dsimp only;rw [hF h fun k hk=>ho k (fu hex hl k hk)]
def af2 {b:Builtin} {args:List Operand} {tys:List TypeId} (h:∀ x ∈ args,e' x = e x) (ho:∀ k ∈ dv e args,o' k = o k):wv E o' e' b args tys = wv E o e b args tys:=by
 unfold wv;split
 · rename_i x t r
   rw [h x br1]
   cases E t with
   | none=>rfl
   | some ti =>
    dsimp only;cases ti.k <;> try rfl
    exact ahn (G:=id) (F:=a85) (fun h hh=>au9 hh) br1 ho
 rfl
def apo (ho:∀ k ∈ dv e [x],o' k = o k):t6 o' e x = t6 o e x:=by
 unfold t6
 cases hex:e x with
 | none=>rfl
 | some r =>
  cases r with
  | tup l=>rfl
  | v cc =>
   cases cc with
   | agg l=>rfl
   | one h =>
    have:=a1d (o:=o) (o':=o') (h:=h) (fun k hk=>ho k (fu hex br1 k hk))
    cases h with
    | p x=>cases x <;> rfl
    | ref id n=>rfl
    | ptr id off=>dsimp only;rw [this]
    | eptr id n i j=>dsimp only;rw [this]
    | win id n i m=>rfl
    | clo g k caps=>rfl
    | row id i k=>rfl
    | rptr id i k r j=>dsimp only;rw [this]
    | pin id n ad cap=>rfl
variable {t:TypeId}
def akz (ho:∀ k ∈ dv e [x],o' k = o k):nq E o' e t x = nq E o e t x:=by
 unfold nq
 cases E t with
 | none=>rfl
 | some i =>
  dsimp only
  cases hex:e x with
  | none=>rfl
  | some r =>
   cases r with
   | tup l=>rfl
   | v cc =>
    cases cc with
    | agg l=>rfl
    | one h =>
     dsimp only;rw [a1d (o:=o) (o':=o') (h:=h) (fun k hk=>ho k (fu hex br1 k hk))]
def aa0 {k:Nat} (ho:∀ k ∈ dv e [x],o' k = o k):gn E o' e t x k = gn E o e t x k:=by
 unfold gn
 cases E t with
 | none=>rfl
 | some i =>
  dsimp only;cases i.k <;> try rfl
  rename_i fs;dsimp only
  cases fs[k]? with
  | none=>rfl
  | some q =>
   obtain ⟨off,ft,bl⟩:=q;dsimp only
   cases E ft with
   | none=>rfl
   | some fi =>
    dsimp only
    cases hex:e x with
    | none=>rfl
    | some r =>
     cases r with
     | tup l=>rfl
     | v cc =>
      cases cc with
      | agg l=>rfl
      | one h =>
       dsimp only;rw [a1d (o:=o) (o':=o') (h:=h) (fun k hk=>ho k (fu hex br1 k hk))]
variable {el:TypeId} {i:Operand}
def abg {len:Nat} (ho:∀ k ∈ dv e [x],o' k = o k):o7 E o' e len el x i = o7 E o e len el x i:=by
 unfold o7
 cases E el with
 | none=>rfl
 | some ei =>
  dsimp only
  cases hex:e x with
  | none=>rfl
  | some r =>
   cases r with
   | tup l=>rfl
   | v cc =>
    cases cc with
    | agg l=>rfl
    | one h =>
     dsimp only;rw [a1d (o:=o) (o':=o') (h:=h) (fun k hk=>ho k (fu hex br1 k hk))]
def aa2 (ho:∀ k ∈ dv e [x],o' k = o k):ic E o' e t x i = ic E o e t x i:=by
 unfold ic
 cases E t with
 | none=>rfl
 | some ii =>
  dsimp only;cases ii.k <;> try rfl
  case array len el=>exact abg ho
  rename_i el;dsimp only
  cases E el with
  | none=>rfl
  | some ei =>
   dsimp only
   cases hex:e x with
   | none=>rfl
   | some r =>
    cases r with
    | tup l=>rfl
    | v cc =>
     cases cc with
     | agg l=>rfl
     | one h =>
      dsimp only;have:=fun iv=>atv (o:=o) (o':=o') (h:=h) (n:=ei.size) (i:=iv) (fun k hk=>ho k (fu hex br1 k hk));simp only [this]
def apk {kk:KK} {m:MK} {z:Value} {cm:Bool} (ho:∀ k ∈ h.ids,o' k = o k):ad3 o' kk m z cm h = ad3 o kk m z cm h:=by
 cases h with
 | ref id n=>simp only [ad3];rw [ho id br6]
 | _=>rfl
def agh {cm:Bool} (ho:∀ k ∈ dv e [x],o' k = o k):ld E o' e t x i cm = ld E o e t x i cm:=by
 unfold ld
 cases E t with
 | none=>rfl
 | some ii =>
  dsimp only;cases ii.k <;> try rfl
  rename_i kt et;dsimp only
  cases at6 E kt et with
  | none=>rfl
  | some q =>
   obtain ⟨kk,z⟩:=q;dsimp only
   cases hex:e x with
   | none=>rfl
   | some r =>
    cases r with
    | tup l=>rfl
    | v cc =>
     cases cc with
     | agg l=>rfl
     | one h =>
      dsimp only;have:=fun m=>apk (o:=o) (o':=o') (h:=h) (kk:=kk) (m:=m) (z:=z) (cm:=cm) (fun k hk=>ho k (fu hex br1 k hk));simp only [this]
def br4 {p:Prop} (h:p:=by simp [Op.operands]):p:=h
variable {op:Op}
def b3h (hx:∀ x ∈ op.operands,e' x = e x) (ho:∀ k ∈ dv e op.operands.toList,o' k = o k):hq E ex o' e' op = hq E ex o e op:=by
 cases op <;> try rfl
 case move x=>show Option.map _ (e' x) = Option.map _ (e x);rw [hx x br4]
 case assign x=>show Option.map _ (e' x) = Option.map _ (e x);rw [hx x br4]
 case pick c x y =>
  show a2y e' c x y = a2y e c x y;unfold a2y;rw [hx c br4,hx x br4,hx y br4]
 case nilCheck x =>
  show t6 o' e' x = t6 o e x;have h1:t6 o' e' x = t6 o' e x:=by unfold t6;rw [hx x br4]
  rw [h1];exact apo (by simpa [Op.operands] using ho)
 case load t x =>
  show nq E o' e' t x = nq E o e t x;have h1:nq E o' e' t x = nq E o' e t x:=by unfold nq;rw [hx x br4]
  rw [h1];exact akz (by simpa [Op.operands] using ho)
 case fieldAddr t x k =>
  show gn E o' e' t x k = gn E o e t x k;have h1:gn E o' e' t x k = gn E o' e t x k:=by unfold gn;rw [hx x br4]
  rw [h1];exact aa0 (by simpa [Op.operands] using ho)
 case field t x k =>
  show zh E e' t x k = zh E e t x k;unfold zh;rw [hx x br4]
 case indexAddr t x i =>
  show ic E o' e' t x i = ic E o e t x i;have h1:ic E o' e' t x i = ic E o' e t x i:=by unfold ic o7;rw [hx x br4,hx i br4]
  rw [h1];refine aa2 fun k hk=>ho k ?_;simp only [dv,Op.operands,bnn] at hk ⊢;exact bn5 _ hk
 case lookup t x i cm =>
  show ld E o' e' t x i cm = ld E o e t x i cm;have h1:ld E o' e' t x i cm = ld E o' e t x i cm:=by unfold ld;rw [hx x br4,hx i br4]
  rw [h1];refine agh fun k hk=>ho k ?_;simp only [dv,Op.operands,bnn] at hk ⊢;exact bn5 _ hk
 case index t x i =>
  show z8 E e' t x i = z8 E e t x i;unfold z8;rw [hx x br4,hx i br4]
 case binOp op t x y ty =>
  have h1:a8t E ex e' op t x y = a8t E ex e op t x y:=by
   unfold a8t;rw [hx x br4,hx y br4]
  have h2:wz E e' op t x y = wz E e op t x y:=by
   unfold wz;rw [hx x br4]
  simp only [hq];rw [h1,h2]
 case unOp op t x =>
  show afs ex e' op x = afs ex e op x;unfold afs;rw [hx x br4]
 case convert src dst x =>
  show a3p E ex e' src dst x = a3p E ex e src dst x;unfold a3p;rw [hx x br4]
 case extract x i =>
  show u6 e' x i = u6 e x i;unfold u6;rw [hx x br4]
 case slice t x lo hi mx =>
  have e0:=hx x br4;have e1:=np (e:=e) (e':=e') (x:=lo) (fun y hy=>hx y (by simp [Op.operands];simp at hy;simp [hy]));have e2:=np (e:=e) (e':=e') (x:=hi) (fun y hy=>hx y (by simp [Op.operands];simp at hy;simp [hy]));have e3:=np (e:=e) (e':=e') (x:=mx) (fun y hy=>hx y (by simp [Op.operands];simp at hy;simp [hy]))
  have h1:mj E e' t x lo hi mx = mj E e t x lo hi mx:=by
   unfold mj;rw [e0,e1,e2,e3]
  have h2:a9g E o' e' t x lo hi mx = a9g E o e t x lo hi mx:=by
   unfold a9g;rw [e0,e1,e2,e3]
   cases E t with
   | none=>rfl
   | some ti =>
    dsimp only;cases ti.k <;> try rfl
    rename_i el;dsimp only
    cases E el with
    | none=>rfl
    | some ei =>
     dsimp only
     cases jm e lo with
     | none=>rfl
     | some l =>
      cases jm e hi with
      | none=>rfl
      | some hh =>
       cases jm e mx with
       | none=>rfl
       | some m =>
        dsimp only;exact ahn (G:=id) (F:=fun o h=>a02 o ei.size l hh m h) (fun h hh=>alg hh) (l:=(Op.slice t x lo hi mx).operands.toList) br4 ho
  simp only [hq];rw [h1,h2]
 case makeFunc fn first caps =>
  show a3a e' fn first.toList caps.toList = a3a e fn first.toList caps.toList
  unfold a3a;rw [aap (l:=caps.toList) (fun y hy=>hx y (by simp [Op.operands];simp at hy;exact .inr hy)),aad (l:=caps.toList) (fun y hy=>hx y (by simp [Op.operands];simp at hy;exact .inr hy))];split
  · rfl
  · rename_i f x hf
    rw [hx x (by simp [Op.operands];left;rw [<- Array.mem_toList_iff,hf];simp)]
  rfl
 case build t parts =>
  show yx E e' t parts.toList = yx E e t parts.toList;have hf:∀ places cells,j1 e' places cells parts.toList = j1 e places cells parts.toList:=fun places cells=>a2n fun x hm=>hx x (by simpa [Op.operands] using hm);unfold yx;simp only [hf]
 case call c =>
  simp only [hq]
  cases hc:c.callee with
  | value f=>rfl
  | invoke r m=>rfl
  | builtin b =>
   simp only [Op.operands,Call.operands,hc] at hx ho;have h1:∀ x ∈ c.args.toList,e' x = e x:=fun x hm=>hx x (by simpa using hm);have h2:∀ k ∈ dv e c.args.toList,o' k = o k:=fun k hk=>ho k (by simpa using hk);dsimp only;rw [aeh h1,af2 h1 h2]
variable {id:Nat}
def b0a (hx:∀ x ∈ op.operands,e' x = e x):ha E e' id op = ha E e id op:=by
 cases op <;> simp only [ha] <;> simp only [Op.operands] at hx
 case box t x=>rw [hx x br1]
 case buildSlice t n parts =>
  have hf:∀ sz cells,a8p e' sz n parts.toList cells = a8p e sz n parts.toList cells:=fun sz cells=>by
   unfold a8p;exact a2n fun x hm=>hx x (by simpa using hm)
  simp only [hf]
 case makeSlice t l c=>rw [hx l br1,hx c br1]
def aj4 {y:Operand} (ho:∀ k ∈ dv e [x,y],o' k = o k):mi E o' e t x y = mi E o e t x y:=by
 unfold mi
 cases E t with
 | none=>rfl
 | some i =>
  cases hv:e y with
  | none=>rfl
  | some rv =>
   cases rv with
   | tup l=>rfl
   | v cv =>
    cases hex:e x with
    | none=>rfl
    | some r =>
     cases r with
     | tup l=>rfl
     | v cc =>
      cases cc with
      | agg l=>rfl
      | one h =>
       cases h with
       | p x=>cases x <;> rfl
       | ref id n=>rfl
       | ptr id off=>dsimp only;rw [ho id (fu hex br1 id (by simp [HR.ids,HC.ids,HV.ids]))]
       | eptr id n r j=>dsimp only;rw [ho id (fu hex br1 id (by simp [HR.ids,HC.ids,HV.ids]))]
       | win id n i m=>rfl
       | clo g k caps=>rfl
       | row id i k=>rfl
       | rptr id i k r j=>dsimp only;rw [ho id (fu hex br1 id (by simp [HR.ids,HC.ids,HV.ids]))]
       | pin id n ad cap=>rfl
def ap1 {kk:KK} {m:MK} {y:PV} (ho:∀ k ∈ h.ids,o' k = o k):a7e o' kk m y h = a7e o kk m y h:=by
 cases h with
 | ref id n=>simp only [a7e];rw [ho id br6]
 | _=>rfl
def aq0 {v:Operand} (ho:∀ k ∈ dv e [x],o' k = o k):va E o' e t x i v = va E o e t x i v:=by
 unfold va
 cases E t with
 | none=>rfl
 | some ii =>
  dsimp only;cases ii.k <;> try rfl
  rename_i kt et;dsimp only
  cases E kt with
  | none=>rfl
  | some ki =>
   dsimp only
   cases hex:e x with
   | none=>rfl
   | some r =>
    cases r with
    | tup l=>rfl
    | v cc =>
     cases cc with
     | agg l=>rfl
     | one h =>
      dsimp only;have:=fun kk m y=>ap1 (o:=o) (o':=o') (h:=h) (kk:=kk) (m:=m) (y:=y) (fun k hk=>ho k (fu hex br1 k hk));simp only [this]
def aoe (hx:∀ x ∈ op.operands,e' x = e x) (ho:∀ k ∈ dv e op.operands.toList,o' k = o k):hs E o' e' op = hs E o e op:=by
 cases op <;> try rfl
 case mapUpdate t x i v =>
  show va E o' e' t x i v = va E o e t x i v;have h1:va E o' e' t x i v = va E o' e t x i v:=by unfold va;rw [hx x br4,hx i br4,hx v br4]
  rw [h1];refine aq0 fun k hk=>ho k ?_;simp only [dv,Op.operands,bnn] at hk ⊢;exact bn5 _ hk
 case store t addr v =>
  show mi E o' e' t addr v = mi E o e t addr v;have h1:mi E o' e' t addr v = mi E o' e t addr v:=by unfold mi;rw [hx addr br4,hx v br4]
  rw [h1];exact aj4 (by simpa [Op.operands] using ho)
def aas (ho:∀ k ∈ h.ids,o' k = o k):yk o' id h = yk o id h:=by
 cases h with
 | p x =>
  cases x with
  | raw v =>
   cases v with
   | slice a n c=>cases n <;> rfl
   | _=>rfl
  | _=>rfl
 | ref id' n=>simp only [yk];rw [ho id' br6]
 | _=>rfl
variable {wb:Bool}
def a29 {y:HV} (hid:o' id = o id) (ho:∀ k ∈ y.ids,o' k = o k):t8 E o' id n wb el y = t8 E o id n wb el y:=by
 simp only [t8];rw [hid,aas ho]
def ae8 (ho:∀ k ∈ h.ids,o' k = o k):a84 o' id h = a84 o id h:=by
 simp only [a84];rw [aas ho]
 cases h with
 | ref id' n=>simp only;rw [ho id' br6]
 | _=>rfl
def ak0 {y:HV} (hid:o' id = o id) (ho:∀ k ∈ y.ids,o' k = o k):zw E o' id n el y = zw E o id n el y:=by
 simp only [zw];rw [hid,ae8 ho]
def auz {y:HV} (hid:o' id = o id) (ho:∀ k ∈ y.ids,o' k = o k):abh E o' id n el y = abh E o id n el y:=by
 simp only [abh];rw [hid,ae8 ho]
def apn {i k:Nat} {y:HV} (hid:o' id = o id):a3y E o' el id n i k y = a3y E o el id n i k y:=by
 unfold a3y;rw [hid]
def aut {z:List Value} (ho:∀ k ∈ h.ids,o' k = o k):aga o' z n h = aga o z n h:=by
 cases h with
 | win id n i m=>simp only [aga];rw [ho id br6]
 | _=>rfl
def apm {hy hx:HV} (h1:∀ k ∈ hx.ids,o' k = o k) (h2:∀ k ∈ hy.ids,o' k = o k):yj E o' id wb el hy hx = yj E o id wb el hy hx:=by
 cases hx with
 | win id1 n i k =>
  simp only [yj];exact apn (h1 id1 br6)
 | pin id1 n ad cap =>
  simp only [yj];rw [a29 (o:=o) (o':=o') (h1 id1 br6) h2]
 | ref id1 n =>
  simp only [yj];rw [a29 (o:=o) (o':=o') (h1 id1 br6) h2,ak0 (o:=o) (o':=o') (h1 id1 br6) h2,auz (o:=o) (o':=o') (h1 id1 br6) h2]
 | p px =>
  cases px with
  | sl n sz cl f =>
   cases cl with
   | false=>rfl
   | true =>
    simp only [yj]
    cases E el with
    | none=>rfl
    | some ei =>
     dsimp only
     rw [a29 (o:=fun k=>if k = id then some (aa.arr false ei.size el n f) else o k) (o':=fun k=>if k = id then some (aa.arr false ei.size el n f) else o' k) br1 (fun k hk=>by
      try dsimp only
      split
      · rfl
      exact h2 k hk)]
  | _=>rfl
 | _=>rfl
def apt {x y:Option HR} (hx:∀ r,x = some r -> ∀ k ∈ r.ids,o' k = o k) (hy:∀ r,y = some r -> ∀ k ∈ r.ids,o' k = o k):
 a9m E o' id wb t x y = a9m E o id wb t x y:=by
 unfold a9m
 cases E t with
 | none=>rfl
 | some i =>
  dsimp only;cases i.k <;> try rfl
  rename_i el
  cases x with
  | none=>rfl
  | some rx =>
   cases rx with
   | tup l=>rfl
   | v cx =>
    cases cx with
    | agg l=>rfl
    | one hxv =>
     cases y with
     | none=>rfl
     | some ry =>
      cases ry with
      | tup l=>rfl
      | v cy =>
       cases cy with
       | agg l=>rfl
       | one hyv=>exact apm (hx _ rfl) (hy _ rfl)
def awg (hx:∀ x ∈ op.operands,e' x = e x) (ho:∀ k ∈ dv e op.operands.toList,o' k = o k):hap E o' e' id wb op = hap E o e id wb op:=by
 cases op <;> try rfl
 case call c =>
  unfold hap;dsimp only;split
  · rename_i hc
    simp only [Op.operands,Call.operands,hc] at hx ho;have h1:∀ x ∈ c.args.toList,e' x = e x:=fun x hm=>hx x (by simpa using hm);have h2:∀ k ∈ dv e c.args.toList,o' k = o k:=fun k hk=>ho k (by simpa using hk);generalize c.args.toList = l at h1 h2;unfold a9a;split
    · rename_i x y t t' _
      split
      · rw [h1 x br1,h1 y br1]
        exact apt (fun r hr k hk=>h2 k (fu hr br1 k hk)) (fun r hr k hk=>h2 k (fu hr br1 k hk))
      rfl
    rfl
  · rename_i hc
    simp only [Op.operands,Call.operands,hc] at hx ho;have h1:∀ x ∈ c.args.toList,e' x = e x:=fun x hm=>hx x (by simpa using hm);have h2:∀ k ∈ dv e c.args.toList,o' k = o k:=fun k hk=>ho k (by simpa using hk);generalize c.args.toList = l at h1 h2;unfold a0a;split
    · rename_i x t _
      rw [h1 x br1]
      cases E t with
      | none=>rfl
      | some ti =>
       dsimp only;cases ti.k <;> try rfl
       rename_i el;dsimp only
       cases E el with
       | none=>rfl
       | some ei =>
        dsimp only
        cases ei.zero with
        | none=>rfl
        | some z =>
         dsimp only;split
         · cases hex:e x with
           | none=>rfl
           | some r =>
            cases r with
            | tup l=>rfl
            | v cc =>
             cases cc with
             | agg l=>rfl
             | one hv=>exact aut fun k hk=>h2 k (fu hex br1 k hk)
         rfl
    rfl
  rfl
def aac (ho:∀ k ∈ h.ids,o' k = o k):a4n o' h = a4n o h:=by
 cases h with
 | ref id n=>simp only [a4n];rw [ho id br6]
 | _=>rfl
end
end
end
end Go.Hx

/- A part of the proof: Hx10 Hx11. -/
import Derived.Laws.IdiomStrings
import Derived.OrdersIn
import Derived.RangeFuncCalls
import Derived.RangeFuncNested
import Derived.Test.YtkkenjdfbojdlaaGreatDoorJx08
set_option linter.all false
namespace Go.Hx
section
open Go.RowKit
def a6 (P:Program) (f:FuncId) (args:List PC) (res:PR):Prop :=
 ∀ (w:World) (imm:Imm) (us:List Value),qz imm -> (∀ b ob,imm b = some ob -> w.heap[b]? = some ob) -> cn imm args us ->
  Calls P f us.toArray w fun e w'=>∃ v imm',e = .returned v /\ rh imm' res v /\ (∀ b,b < w.heap.size -> imm' b = imm b) /\ (∀ b ob,imm' b = some ob -> w'.heap[b]? = some ob) /\ Below w.heap.size w w'
def a42 (o:b4):HV -> Option (Prop × PV × Bool)
 | .p x=>some (True,x,false)
 | .ref id n =>
  match o id with
  | some (.arr _ s _ n' f)=>some (n' = n, .sl n s false f,true)
  | _=>none
 | _=>none
def xl (o:b4):List HV -> Option (Prop × List PV × Bool)
 | []=>some (True,[],false)
 | x :: r =>
  match a42 o x,xl o r with
  | some (p,y,b),some (q,ys,b')=>some (p /\ q,y :: ys,b || b')
  | _,_=>none
def a7m (o:b4):HV -> Option (Prop × PV × Bool)
 | .ptr id off =>
  match o id with
  | some (.box l) =>
   match xl o (l.drop off) with
   | some (p,ys,_)=>some (p, .vp ys.length fun j=>ys.getD j .any,true)
   | none=>none
  | _=>none
 | h=>a42 o h
def a0a (o:b4):HC -> Option (Prop × PC × Bool)
 | .one h=>match a7m o h with | some (p,y,b)=>some (p, .one y,b) | none=>none
 | .agg l=>match xl o l with | some (p,ys,b)=>some (p, .agg ys,b) | none=>none
def jn (o:b4) (e:Ev):List Operand -> Option (Prop × List PC × Bool)
 | []=>some (True,[],false)
 | x :: r =>
  match e x,jn o e r with
  | some (.v cc),some (q,ys,b')=>match a0a o cc with | some (p,y,b)=>some (p /\ q,y :: ys,b || b') | none=>none
  | _,_=>none
def gq (caps:Nat -> PV):Nat -> Nat -> List PC
 | 0,_=>[]
 | n + 1,i=>.one (caps i) :: gq caps n (i + 1)
def PV.flat:PV -> Bool
 | .raw _=>true
 | .any=>true
 | _=>false
def aho:List PV -> Bool
 | []=>true
 | x :: r=>x.flat && aho r
def PC.flat:PC -> Bool
 | .one x=>x.flat
 | .agg l=>aho l
def ab8:List PC -> Bool
 | []=>true
 | x :: r=>x.flat && ab8 r
def PR.flat:PR -> Bool
 | .v x=>x.flat
 | .tup l=>ab8 l
section
variable {m m':Imm}
def az.flat {x:PV} {u:Value} (hf:x.flat = true) (h:az m x u):az m' x u:=by
 cases x <;> simp [PV.flat] at hf <;> exact h
def ec.flat:∀ {xs:List PV} {us:List Value},aho xs = true -> ec m xs us -> ec m' xs us
 | [],[],_,_=>trivial
 | _ :: _,_ :: _,hf,h=>by
  simp only [aho,bjm] at hf;exact ⟨h.1.flat hf.1,ec.flat hf.2 h.2⟩
 | [],_ :: _,_,h=>h.elim
 | _ :: _,[],_,h=>h.elim
def gv.flat {x:PC} {u:Value} (hf:x.flat = true) (h:gv m x u):gv m' x u:=by
 cases x with
 | one x=>exact az.flat hf h
 | agg l=>obtain ⟨us,e,hl⟩:=h;exact ⟨us,e,hl.flat hf⟩
def cn.flat:∀ {xs:List PC} {us:List Value},ab8 xs = true -> cn m xs us -> cn m' xs us
 | [],[],_,_=>trivial
 | _ :: _,_ :: _,hf,h=>by
  simp only [ab8,bjm] at hf;exact ⟨h.1.flat hf.1,cn.flat hf.2 h.2⟩
 | [],_ :: _,_,h=>h.elim
 | _ :: _,[],_,h=>h.elim
def rh.flat {x:PR} {u:Value} (hf:x.flat = true) (h:rh m x u):rh m' x u:=by
 cases x with
 | v x=>exact gv.flat hf h
 | tup l=>obtain ⟨us,e,hl⟩:=h;exact ⟨us,e,hl.flat hf⟩
def gc (w:World):Imm:=fun b=>w.heap[b]?
end
section
variable {P:Program} {E:Env} {w0:World} {nt:Nat} {c:Ctx} {s:S} {a:Act} {w:World}
structure yu (w0:World) (c:Ctx) (w:World) (m:Imm):Prop where
 le:Imm.le c.imm m
 new:∀ b,c.frm b = none -> b < w.heap.size -> m b = w.heap[b]?
def xj (h:ai w0 nt c s a w):Imm.le c.imm (gc w):=fun b ob hb=>h.imm b ob hb
def b05 (h:ai w0 nt c s a w):yu w0 c w (gc w):=⟨xj h,fun _ _ _=>rfl⟩
section
variable {m:Imm}
def a8p (hm:yu w0 c w m) {b off:Nat} {x:Value} (hb:c.frm b = none) (hc:w.cell? ⟨b,off,none⟩ = some x):je m b off = some x:=by
 have hlt:=World.block_lt_of_cell? w _ hc;unfold World.cell? at hc;unfold je;rw [hm.new b hb hlt];dsimp only at hc;split at hc
 · rename_i cs e fr hb
   rw [hb];simpa using hc
 cases hc
def a8u (h:ai w0 nt c s a w) (hm:yu w0 c w m) {x:HV} {u:Value} (hu:bf c s.o x u) {p:Prop} {y:PV} {b:Bool} (hv:a42 s.o x = some (p,y,b)) (hp:p):
 az m y u /\ (b = false -> az c.imm y u):=by
 unfold a42 at hv;split at hv
 · simp only [bjb,bjl] at hv
   obtain ⟨_,rfl,rfl⟩:=hv;exact ⟨az.mono hm.le hu,fun _=>hu⟩
 · rename_i id n
   split at hv <;> try (cases hv;done)
   rename_i wr sz e n' f ho;simp only [bjb,bjl] at hv;obtain ⟨rfl,rfl,rfl⟩:=hv;obtain rfl:n' = n:=hp;refine ⟨?_,fun hb=>by cases hb⟩;obtain ⟨_,_,h3⟩:=hu;have hown:=(h3 _ _ _ _ ho rfl).2 rfl;obtain ⟨h0,h1,h5⟩:=h.objs id _ ho
   rcases h5 with ⟨h6,xs,h2,h4⟩ | ⟨h6,h7,h8⟩
   · rcases h2.2 with ⟨hv,hz⟩ | ⟨g,cap,cur,hv,hbase,hheap,hcap,hmax,hcs,htake⟩
     · exact ⟨none,0,by rw [hown,hv,hz],by omega,by simp [maxLen],(fun hh=>by cases hh),fun hn=>by omega⟩
     refine ⟨_,cap,by rw [hown,hv],hcap,hmax,(fun hh=>by cases hh),fun hn=>⟨g,0,rfl,fun i j hi hj=>?_⟩⟩;obtain ⟨x,hx,hr⟩:=h4 i j hi hj;have:=h2.cells (g:=g) (by rw [hv];rfl) _ _ hx;rw [d9] at this;exact ⟨x,a8p hm (h.fsep id _ g ho (by rw [h6,hv];rfl)) this,az.mono hm.le hr⟩
   obtain ⟨ad,cap,q1,q2,q3,q4,q5⟩:=az.mono hm.le h8;rw [hown];exact ⟨ad,cap,q1,q2,q3,(fun hh=>by cases hh),q5⟩
 cases hv
def a0y (h:ai w0 nt c s a w) (hm:yu w0 c w m):∀ {xs:List HV} {us:List Value} (_:b7 c s.o xs us) {p:Prop} {ys:List PV} {b:Bool} (_:xl s.o xs = some (p,ys,b)) (_:p),
 ec m ys us /\ (b = false -> ec c.imm ys us)
 | [],[],_,p,ys,b,hv,_=>by
  simp only [xl,bjb,bjl] at hv;obtain ⟨_,rfl,_⟩:=hv;exact ⟨trivial,fun _=>trivial⟩
 | x :: xs,u :: us,hu,p,ys,b,hv,hp=>by
  simp only [xl] at hv;split at hv <;> try (cases hv;done)
  rename_i p1 y1 b1 p2 ys2 b2 h1 h2;simp only [bjb,bjl] at hv;obtain ⟨rfl,rfl,rfl⟩:=hv;obtain ⟨q1,q2⟩:=a8u h hm hu.1 h1 hp.1;obtain ⟨q3,q4⟩:=a0y h hm hu.2 h2 hp.2
  exact ⟨⟨q1,q3⟩,fun hb=>by
   rw [bmj] at hb
   exact ⟨q2 hb.1,q4 hb.2⟩⟩
 | [],_ :: _,hu,_,_,_,_,_=>hu.elim
 | _ :: _,[],hu,_,_,_,_,_=>hu.elim
def ann (h:ai w0 nt c s a w) (hm:yu w0 c w m) {x:HV} {u:Value} (hu:bf c s.o x u) {p:Prop} {y:PV} {b:Bool} (hv:a7m s.o x = some (p,y,b)) (hp:p):
 az m y u /\ (b = false -> az c.imm y u):=by
 unfold a7m at hv;split at hv
 · rename_i id off
   split at hv <;> try (cases hv;done)
   rename_i l hl;split at hv <;> try (cases hv;done)
   rename_i q ys bb hvl;simp only [bjb,bjl] at hv;obtain ⟨rfl,rfl,rfl⟩:=hv;refine ⟨?_,fun hb=>by cases hb⟩;obtain ⟨_,_,h3⟩:=hu;obtain ⟨bk,hb,rfl⟩:=h3 l hl;obtain ⟨b',C,e,h1,hblk,h2,h4,h5⟩:=h.objs id _ hl;rw [hb] at h1;simp only [Value.pointer.injEq,bjb,Addr.mk.injEq,and_true] at h1;subst h1;obtain ⟨q1,_⟩:=a0y h hm (h5.drop off) hvl hp;refine ⟨bk,off,rfl,fun j hj=>?_⟩;obtain ⟨v,hv,hr⟩:=q1.get j ys[j] (bjc hj);refine ⟨v,a8p hm (h.fsep id _ bk hl (by rw [hblk];rfl)) ?_,by simpa [List.getD,bjc hj] using hr⟩;rw [cell_of_row w bk (off + j) C e (0,0) h4];rw [blp] at hv;simpa using hv
 exact a8u h hm hu hv hp
def a8k (h:ai w0 nt c s a w) (hm:yu w0 c w m) {x:HC} {u:Value} (hu:fh c s.o x u) {p:Prop} {y:PC} {b:Bool} (hv:a0a s.o x = some (p,y,b)) (hp:p):
 gv m y u /\ (b = false -> gv c.imm y u):=by
 unfold a0a at hv;split at hv
 · split at hv <;> try (cases hv;done)
   rename_i hvp;simp only [bjb,bjl] at hv;obtain ⟨rfl,rfl,rfl⟩:=hv;exact ann h hm hu hvp hp
 split at hv <;> try (cases hv;done)
 rename_i hvl;simp only [bjb,bjl] at hv;obtain ⟨rfl,rfl,rfl⟩:=hv;obtain ⟨us,rfl,hl⟩:=hu;obtain ⟨q1,q2⟩:=a0y h hm hl hvl hp;exact ⟨⟨us,rfl,q1⟩,fun hb=>⟨us,rfl,q2 hb⟩⟩
def a2g (h:ai w0 nt c s a w) (hm:yu w0 c w m):∀ {xs:List Operand} {p:Prop} {ys:List PC} {b:Bool} (_:jn s.o (ev s) xs = some (p,ys,b)) (_:p),
 cn m ys (xs.map a.eval) /\ (b = false -> cn c.imm ys (xs.map a.eval))
 | [],p,ys,b,hv,_=>by
  simp only [jn,bjb,bjl] at hv;obtain ⟨_,rfl,_⟩:=hv;exact ⟨trivial,fun _=>trivial⟩
 | x :: xs,p,ys,b,hv,hp=>by
  simp only [jn] at hv;split at hv <;> try (cases hv;done)
  rename_i cc q ys2 b2 hx h2;split at hv <;> try (cases hv;done)
  rename_i p1 y1 b1 h1;simp only [bjb,bjl] at hv;obtain ⟨rfl,rfl,rfl⟩:=hv;obtain ⟨q1,q2⟩:=a8k h hm (af h hx) h1 hp.1;obtain ⟨q3,q4⟩:=a2g h hm h2 hp.2
  exact ⟨⟨q1,q3⟩,fun hb=>by
   rw [bmj] at hb
   exact ⟨q2 hb.1,q4 hb.2⟩⟩
def ue {caps:Nat -> PV}:∀ (n i:Nat) (cs:List Value),cs.length = i + n -> (∀ j,j < i + n -> ∃ x,cs[j]? = some x /\ az m (caps j) x) -> cn m (gq caps n i) (cs.drop i)
 | 0,i,cs,hl,_=>by
  rw [bnb bnl];trivial
 | n + 1,i,cs,hl,h=>by
  rw [bmh bnl];obtain ⟨x,hx,hr⟩:=h i bnl;rw [bjc bnl] at hx;simp only [bjb] at hx;subst hx;exact ⟨hr,ue n (i + 1) cs bnl fun j hj=>h j bnl⟩
def cn.append:∀ {xs ys:List PC} {us vs:List Value},cn m xs us -> cn m ys vs -> cn m (xs ++ ys) (us ++ vs)
 | [],_,[],_,_,h=>h
 | _ :: _,_,_ :: _,_,h,k=>⟨h.1,cn.append h.2 k⟩
 | [],_,_ :: _,_,h,_=>h.elim
 | _ :: _,_,[],_,h,_=>h.elim
end
end
def HC.ids:HC -> List Nat
 | .one h=>h.ids
 | .agg l=>l6 l
def a2v:List HC -> List Nat
 | []=>[]
 | x :: r=>x.ids ++ a2v r
def HR.ids:HR -> List Nat
 | .v x=>x.ids
 | .tup l=>a2v l
def aa.ids:aa -> List Nat
 | .mp ..=>[]
 | .bld ..=>[]
 | .box l=>l6 l
 | .arr ..=>[]
 | .arrh _ _ _ ms _=>ms
 | .nest _ _ _ _ _ _ (some p)=>[p.1]
 | .nest _ _ _ _ _ _ none=>[]
theorem HC.men_ids {x:HC} {k:Nat} (h:x.men k):k ∈ x.ids:=by
 cases x with
 | one h'=>exact HV.men_ids h
 | agg l=>exact p6 h
def afz:∀ {l:List HC} {k:Nat},(∃ h ∈ l,h.men k) -> k ∈ a2v l
 | [],_,⟨_,h,_⟩=>by cases h
 | x :: r,k,⟨h,hm,hk⟩=>by
  rcases bjq.1 hm with rfl | hm
  · exact bju _ (HC.men_ids hk)
  exact bk2 _ (afz ⟨h,hm,hk⟩)
theorem HR.men_ids {x:HR} {k:Nat} (h:x.men k):k ∈ x.ids:=by
 cases x with
 | v x=>exact HC.men_ids h
 | tup l=>exact afz h
def aa.men_ids {x:aa} {k:Nat} (h:x.men k):k ∈ x.ids:=by
 cases x with
 | mp kk n f=>exact h.elim
 | bld fr T e l=>exact h.elim
 | box l=>exact p6 h
 | arr wr s e n f=>exact h.elim
 | arrh s e n ms f=>exact h
 | nest e et es n m g pd=>cases pd with | none=>exact h.elim | some p=>exact bjy.2 h
def dm (e:Ev):List Operand -> List Nat
 | []=>[]
 | x :: r=>(match e x with | some v=>v.ids | none=>[]) ++ dm e r
structure Ann where
 id:Nat
 wb:Bool
 ex:Bool
 res:PR
 W:List Nat
 N:List Nat
 M:List Nat
def ay (ops:Array Oper) (s:S) (o:Oper):Option Bool :=
 match o.guard with
 | none=>some true
 | some (j,want) =>
  match (ops[j]?).bind (·.dst) with
  | some d=>match s.t d with | some (.v (.one (.p (.raw (.bool b)))))=>some (b == want) | some (.tup [])=>some false | _=>none
  | none=>none
def db (nt:Nat):Option Tmp -> Bool
 | none=>true
 | some d=>decide (d < nt)
def pvN (f:Nat -> PV):Nat -> Nat -> List PV
 | 0,_=>[]
 | n + 1,i=>f i :: pvN f n (i + 1)
def afm {m:Imm} {f:Nat -> PV}:∀ (n i:Nat) (cs:List Value),cs.length = i + n -> (∀ j,j < i + n -> ∃ x,cs[j]? = some x /\ az m (f j) x) -> ec m (pvN f n i) (cs.drop i)
 | 0,i,cs,hl,_=>by
  rw [bnb bnl];trivial
 | n + 1,i,cs,hl,h=>by
  obtain ⟨x,hx,hr⟩:=h i bnl;have hlt:i < cs.length:=by omega
  rw [bmh hlt];rw [bjc hlt] at hx;simp only [bjb] at hx;rw [hx];exact ⟨hr,afm n (i + 1) cs bnl fun j hj=>h j bnl⟩
def callee (e:Ev) (cl:Call):Option (FuncId × List PC × List PC) :=
 match cl.callee with
 | .value f =>
  match e f with
  | some (.v (.one (.p (.fn g k caps))))=>some (g,[],gq caps k 0)
  | some (.v (.one (.p (.bnd g m fr))))=>some (g,[.agg (pvN fr m 0)],[])
  | _=>none
 | _=>none
def adn (caps:Nat -> HV):Nat -> Nat -> List HC
 | 0,_=>[]
 | n + 1,i=>.one (caps i) :: adn caps n (i + 1)
def va (e:Ev) (cl:Call):Option (FuncId × List HC) :=
 match cl.callee with
 | .value f =>
  match e f with
  | some (.v (.one (.p (.fn g k caps))))=>some (g,(gq caps k 0).map PC.toH)
  | some (.v (.one (.clo g k caps)))=>some (g,adn caps k 0)
  | _=>none
 | _=>none
def goodFn (P : Program) (f : FuncId) : Prop := ∃ fn, P.funcs[f]? = some fn /\ (fn.name == "runtime.NumGoroutine") = false /\ fn.body.isNone = false
theorem S.setW_one (s:S) (id:Nat) (ob:aa):s.setW [(id,some ob)] = s.setO id (some ob):=by
 unfold S.setW S.setO;simp only [S.mk.injEq,true_and];funext k;by_cases hk:k = id
 · subst hk;simp [gt]
 have:Nat.beq id k = false:=by
  rw [bjp];exact fun hb=>hk (bk3 hb).symm
 simp [gt,this,hk]
theorem S.setW_none (s:S) (id:Nat):s.setW [(id,none)] = s.setO id none:=by
 unfold S.setW S.setO;simp only [S.mk.injEq,true_and];funext k;by_cases hk:k = id
 · subst hk;simp [gt]
 have:Nat.beq id k = false:=by
  rw [bjp];exact fun hb=>hk (bk3 hb).symm
 simp [gt,this,hk]
def ru (e:Ev):List Operand -> Option (List HC)
 | []=>some []
 | x :: r =>
  match e x,ru e r with
  | some (.v cc),some l=>some (cc :: l)
  | _,_=>none
def aal:List (Nat × aa) -> List Nat
 | []=>[]
 | (_,x) :: r=>x.ids ++ aal r
def am8 (w:World) (o:Obj) {k:Nat} (h:k < w.heap.size):(w.drew.alloc o).heap[k]? = w.heap[k]?:=by
 show (w.heap.push o)[k]? = w.heap[k]?;rw [bnc h,bk9 h]
def ara (b:ByteArray):Nat -> Nat -> PV:=fun i _=>.raw (.int .u8 (kw b i))
def acx (E:Env) (e:Ev) (sr ds:TypeId) (x:Operand):Option ByteArray :=
 match E sr,E ds,e x with
 | some ti,some td,some (.v (.one (.p (.raw (.string b))))) =>
  match ti.k,td.k with
  | .string, .slice el =>
   match E el with
   | some ei=>match ei.k with | .int .u8=>some b | _=>none
   | none=>none
  | _,_=>none
 | _,_,_=>none
inductive Eff (P:Program) (E:Env) (nt:Nat) (ops:Array Oper) (o:Oper) (an:Ann) (s:S):Option HR -> Wr -> Prop where
 | cut (out:Out) (id:Nat) (hw:ay ops s o = some true) (hd:db nt o.dst = true) (hq':xi E s.o (ev s) o.op = some (out,id)) (hp:out.pre) (hW:an.W = [id]):Eff P E nt ops o an s (some out.val) [(id,none)]
 | skip (hw:ay ops s o = some false) (hd:db nt o.dst = true):Eff P E nt ops o an s (some (.tup [])) []
 | quiet (out:Out) (hw:ay ops s o = some true) (hd:db nt o.dst = true) (hq':hq E an.ex s.o (ev s) o.op = some out) (hp:out.pre) (hM:out.val.ids = an.M):Eff P E nt ops o an s (some out.val) []
 | make (nw:New) (hw:ay ops s o = some true) (hd:db nt o.dst = true) (hq':ha E (ev s) an.id o.op = some nw) (hp:nw.pre) (hm:NM s an.id) (hn:s.o an.id = none)
  (hW:an.W = [an.id]) (hN:an.N = [an.id]) (hM:nw.val.ids ++ nw.ob.ids = an.M):Eff P E nt ops o an s (some nw.val) [(an.id,some nw.ob)]
 | store (u:Upd) (hw:ay ops s o = some true) (hd:db nt o.dst = true) (hq':hs E s.o (ev s) o.op = some u) (hp:u.pre) (hW:an.W = [u.id]) (hM:∀ k ∈ u.ob.ids,k ∈ an.M):Eff P E nt ops o an s none [(u.id,some u.ob)]
 | app (u:App) (hw:ay ops s o = some true) (hd:db nt o.dst = true) (hq':hap E s.o (ev s) an.id an.wb o.op = some u) (hp:u.pre) (hn:u.new = true -> NM s an.id /\ s.o an.id = none)
  (hW:an.W = [u.id]) (hN:u.new = true -> an.N = [an.id]) (hM:u.val.ids ++ u.ob.ids = an.M):Eff P E nt ops o an s (some u.val) [(u.id,some u.ob)]
 | call (cl:Call) (f:FuncId) (fst caps args:List PC) (p:Prop) (vs:List PC) (b:Bool) (hw:ay ops s o = some true) (hd:db nt o.dst = true) (ho:o.op = .call cl) (hc:callee (ev s) cl = some (f,fst,caps)) (hf:goodFn P f)
  (hv:jn s.o (ev s) cl.args.toList = some (p,vs,b)) (hp:p) (hco:CoL (fst ++ (vs ++ caps)) args) (hpure:a6 P f args an.res) (hb:(!b || an.res.flat) = true) (hM:an.M = []):Eff P E nt ops o an s (some an.res.toH) []
 | conv (sr ds:TypeId) (x:Operand) (b:ByteArray) (hw:ay ops s o = some true) (hd:db nt o.dst = true) (ho:o.op = .convert sr ds x) (hcv:acx E (ev s) sr ds x = some b) (hp:b.size <= maxLen) (hM:an.M = []) :
  Eff P E nt ops o an s (some (.v (.one (.p (.sl b.size 1 false (ara b)))))) []
 | fcall (cl:Call) (f:FuncId) (caps:List HC) (args hcs:List HC) (o1 o2:List (Nat × aa)) (res:HR) (fx:List Nat) (hw:ay ops s o = some true) (hd:db nt o.dst = true) (ho:o.op = .call cl) (hc:va (ev s) cl = some (f,caps)) (hf:goodFn P f)
  (hv:ru (ev s) cl.args.toList = some hcs) (hco:ul (hcs ++ caps) args) (hfun:d4 P f args o1 res o2 fx) (hsub:∀ id ob,lk o1 id = some ob -> ∃ ob',s.o id = some ob' /\ CoO ob' ob)
  (hnew:∀ id ∈ d5 o2,id ∉ d5 o1 -> s.o id = none) (hnm:∀ id ∈ d5 o2,id ∉ fx \/ id ∉ d5 o1 -> NMx s (d5 o1 ++ d5 o2) id) (hcl:∀ id ob,lk o2 id = some ob -> ∀ k,ob.men k -> k ∈ d5 o2) (hclr:∀ k,res.men k -> k ∈ d5 o2)
  (hW:an.W = d5 o1 ++ d5 o2) (hN:∀ id ∈ d5 o2,id ∉ fx \/ id ∉ d5 o1 -> id ∈ an.N) (hM:an.M = res.ids ++ aal o2):Eff P E nt ops o an s (some res) (xe o1 o2)
def aly:∀ (l:List PV),l6 (l.map .p) = []
 | []=>rfl
 | _ :: r=>by simp [l6,HV.ids,aly r]
def aen:∀ (l:List PC),a2v (l.map PC.toH) = []
 | []=>rfl
 | .one _ :: r=>by simp [a2v,HC.ids,PC.toH,HV.ids,aen r]
 | .agg l :: r=>by simp [a2v,HC.ids,PC.toH,aly l,aen r]
theorem PR.ids_toH (x:PR):x.toH.ids = []:=by
 cases x with
 | v x=>cases x <;> simp [PR.toH,HR.ids,PC.toH,HC.ids,HV.ids,aly]
 | tup l=>simp [PR.toH,HR.ids,aen]
def S.after (s:S) (d:Option Tmp) (x:Option HR) (wr:Wr):S:=(s.setW wr).putD d x
def rf (ro:Option Nat):Fence:={ fn:=fun _=>True,depth:=none,alive:=false,round:=ro }
section
variable {P:Program} {ro:Option Nat}
def aqu {n:Nat} {f:FuncId} {args:Array Value} {w:World} {R:Ending -> World -> Prop} (h:Calls P f args w R):CallsIn (rf ro) n P f args w R:=(callsIn_wide (n:=n)).2 h
def aul {n:Nat} {row:String} {args:Array Value} {w:World} {R:Value -> World -> Prop} (h:Rows P row args w R):RowsIn (rf ro) n P row args w R:=fun c cs _=>by
 obtain ⟨v,w',r,s⟩:=h c cs;exact ⟨v,w',r,stepsIn_wide.2 s⟩
def a8j {n:Nat} {o:Oper} {a:Act} {w:World} {K:Act -> World -> Prop} {Q:Exit -> Act -> World -> Prop} (hnd:∀ c,o.op ≠ .defer c) (h:o.wp P a w K Q):o.wpIn (rf ro) n P a w K Q:=by
 refine ⟨fun _ _=>trivial, ?_⟩;rw [Oper.semAt_eq _ _ _ hnd];unfold Oper.wp at h;generalize (execOp a.eval o).run P w = r at *
 cases r with
 | ok x w' =>
  cases x <;> simp only [Oper.upon,Oper.uponIn] at h ⊢ <;>
   first
    | exact h
    | exact ⟨(fun hh=>absurd hh (by simp [rf])),aqu h⟩
    | exact ⟨(fun hh=>absurd hh (by simp [rf])),aul h⟩
    | exact h.elim
 | halt x w'=>cases x <;> simp only [Oper.upon,Oper.uponIn] at h ⊢ <;> first | exact h | exact h.elim
def asa (P:Program) (ops:Array Oper) (Q:Exit -> Act -> World -> Prop) (i:Nat) (K:Act -> World -> Prop) (a:Act) (w:World):Prop :=
 match ops[i]? with
 | none=>K a w
 | some o=>if Region.wanted o (yielded ops a.tmps) then o.wp P a w K Q else K (a.put o.dst undef) w
theorem Eff.nd {E:Env} {nt:Nat} {ops:Array Oper} {o:Oper} {an:Ann} {s:S} {x:Option HR} {wr:Wr} (he:Eff P E nt ops o an s x wr):ay ops s o = some false \/ ∀ c,o.op ≠ .defer c:=by
 cases he with
 | skip hw hd=>exact .inl hw
 | cut out id hw hd hq' hp hW=>exact .inr fun c hc=>by rw [hc] at hq';cases hq'
 | quiet out hw hd hq' hp hM=>exact .inr fun c hc=>by rw [hc] at hq';cases hq'
 | make nw hw hd hq' hp hm hn hW hN hM=>exact .inr fun c hc=>by rw [hc] at hq';cases hq'
 | store u hw hd hq' hp hW hM=>exact .inr fun c hc=>by rw [hc] at hq';cases hq'
 | app u hw hd hq' hp hn hW hN hM=>exact .inr fun c hc=>by rw [hc] at hq';cases hq'
 | call cl f fst caps args p vs b hw hd ho hc hf hv hp hco hpure hb hM=>exact .inr fun c hc=>by rw [hc] at ho;cases ho
 | conv sr ds x b hw hd ho hcv hp hM=>exact .inr fun c hc=>by rw [hc] at ho;cases ho
 | fcall cl f caps args hcs o1 o2 res fx hw hd ho hc hf hv hco hfun hsub hnew hnm hcl hclr hW hN hM=>exact .inr fun c hc=>by rw [hc] at ho;cases ho
end
section
variable {P:Program} {E:Env} {w0:World} {m0:Old} {nt:Nat} {s:S} {a:Act} {w:World} {ops:Array Oper} {o:Oper} {an:Ann}
def j7 (h:db nt o.dst = true):∀ k,o.dst = some k -> k < nt:=by
 intro k hk;rw [hk] at h;exact of_decide_eq_true h
def eo {c:Ctx} (h:ai w0 nt c s a w) {b:Bool} (hw:ay ops s o = some b):Region.wanted o (yielded ops a.tmps) = b:=by
 unfold ay at hw;unfold Region.wanted;split at hw
 · rename_i hg
   simp only [bjb] at hw;rw [hg,hw]
 rename_i j want hg;rw [hg];split at hw <;> try (cases hw;done)
 rename_i d hd;split at hw <;> try (cases hw;done)
 rotate_left
 · rename_i hb
   simp only [bjb] at hw;obtain ⟨us,e1,e2⟩:=h.tmps d _ hb
   have e3:us = []:=by cases us with | nil=>rfl | cons=>exact e2.elim
   subst e3;show (yielded ops a.tmps j == some want) = b
   have hy:yielded ops a.tmps j = none:=by
    unfold yielded;rw [hd];simp only [Option.bind_some]
    rcases bmp d a.tmps.size with h' | h'
    · have:a.tmps[d]? = some (.tuple #[]):=by
       rw [bk9 h',<- e1];simp [h']
      simp [this]
    simp [blr h']
   rw [hy,<- hw];rfl
 rename_i bb hb;simp only [bjb] at hw;obtain ⟨e1,_⟩:=h.tmps d _ hb
 have hsz:d < a.tmps.size:=by
  rcases bmp d a.tmps.size with h' | h'
  · exact h'
  have:a.tmps.getD d undef = undef:=by simp [blr h']
  rw [this] at e1;cases e1
 have:a.tmps[d]? = some (.bool bb):=by
  rw [bk9 hsz];rw [<- e1];simp [hsz]
 have hy:yielded ops a.tmps j = some bb:=by
  unfold yielded;rw [hd];simp [this]
 show (yielded ops a.tmps j == some want) = b;rw [hy,<- hw];cases bb <;> cases want <;> rfl
def bu.append {c:Ctx} {o:b4}:∀ {xs ys:List HC} {us vs:List Value},bu c o xs us -> bu c o ys vs -> bu c o (xs ++ ys) (us ++ vs)
 | [],_,[],_,_,h=>h
 | _ :: _,_,_ :: _,_,h,k=>⟨h.1,bu.append h.2 k⟩
 | [],_,_ :: _,_,h,_=>h.elim
 | _ :: _,_,[],_,h,_=>h.elim
def a4f {c:Ctx} {o:b4} {caps:Nat -> HV}:∀ (n i:Nat) (cs:List Value),cs.length = i + n -> (∀ j,j < i + n -> ∃ x,cs[j]? = some x /\ bf c o (caps j) x) -> bu c o (adn caps n i) (cs.drop i)
 | 0,i,cs,hl,_=>by
  rw [bnb bnl];trivial
 | n + 1,i,cs,hl,h=>by
  rw [bmh bnl];obtain ⟨x,hx,hr⟩:=h i bnl;rw [bjc bnl] at hx;simp only [bjb] at hx;subst hx;exact ⟨hr,a4f n (i + 1) cs bnl fun j hj=>h j bnl⟩
def a8l {c:Ctx} (h:ai w0 nt c s a w):∀ {l:List Operand} {hcs:List HC},ru (ev s) l = some hcs -> bu c s.o hcs (l.map a.eval)
 | [],hcs,hv=>by
  simp only [ru,bjb] at hv;subst hv;trivial
 | x :: r,hcs,hv=>by
  simp only [ru] at hv;split at hv <;> try (cases hv;done)
  rename_i cc l e1 e2;simp only [bjb] at hv;subst hv;exact ⟨af h e1,a8l h e2⟩
section
variable {K:Act -> World -> Prop} {Q:Exit -> Act -> World -> Prop}
def aqw (hE:cu P E) {x:Option HR} {wr:Wr} (he:Eff P E nt ops o an s x wr) (h:Rel w0 m0 nt s a w) {i:Nat} (hi:ops[i]? = some o) (hK:∀ a' w',Rel w0 m0 nt (s.after o.dst x wr) a' w' -> K a' w'):asa P ops Q i K a w:=by
 obtain ⟨c,hold,h⟩:=h;unfold asa;simp only [hi]
 cases he with
 | cut out id hw hd hq' hp hW =>
  rw [if_pos (eo h hw)];obtain ⟨v,c',h1,hold',h2,h3⟩:=an9 hE h hq' hp;unfold Oper.wp;rw [h1];refine hK _ _ ⟨c',hold'.trans hold, ?_⟩
  have e:s.after o.dst (some out.val) [(id,none)] = (s.setO id none).putD o.dst (some out.val):=by
   unfold S.after;rw [S.setW_none]
  rw [e]
  exact h2.putD o.dst (j7 hd) (some out.val) v (fun y hy=>by
   simp only [bjb] at hy;subst hy
   exact h3)
 | skip hw hd =>
  rw [if_neg (by rw [eo h hw];simp)];exact hK _ _ ⟨c,hold,h.putD o.dst (j7 hd) (some (.tup [])) undef (fun y hy=>by cases hy;exact ⟨[],rfl,trivial⟩)⟩
 | quiet out hw hd hq' hp hM =>
  rw [if_pos (eo h hw)];obtain ⟨v,h1,h2⟩:=akg hE h hq' hp;unfold Oper.wp;rw [h1]
  exact hK _ _ ⟨c,hold,h.putD o.dst (j7 hd) (some out.val) v (fun y hy=>by
   simp only [bjb] at hy;subst hy
   exact h2)⟩
 | make nw hw hd hq' hp hm hn hW hN hM =>
  rw [if_pos (eo h hw)];obtain ⟨v,w',c',h1,ho',h2,h3⟩:=ayh hE h hq' hp hm hn;have hold':=ho'.trans hold;unfold Oper.wp;rw [h1]
  exact hK _ _ ⟨c',hold',(by unfold S.after;rw [S.setW_one];exact h2.putD o.dst (j7 hd) (some nw.val) v (fun y hy=>by
   simp only [bjb] at hy;subst hy
   exact h3))⟩
 | store u hw hd hq' hp hW hM =>
  rw [if_pos (eo h hw)];obtain ⟨w',c',h1,ho',h2⟩:=ay1 hE h hq' hp;have hold':=ho'.trans hold;unfold Oper.wp;rw [h1];exact hK _ _ ⟨c',hold',(by unfold S.after;rw [S.setW_one];exact h2.putD o.dst (j7 hd) none undef (fun y hy=>by cases hy))⟩
 | app u hw hd hq' hp hn hW hN hM =>
  rw [if_pos (eo h hw)];obtain ⟨v,w',c',h1,⟨ho',h2⟩,h3⟩:=aus hE h hq' hp hn;have hold':=ho'.trans hold;unfold Oper.wp;rw [h1]
  exact hK _ _ ⟨c',hold',(by unfold S.after;rw [S.setW_one];exact h2.putD o.dst (j7 hd) (some u.val) v (fun y hy=>by
   simp only [bjb] at hy;subst hy
   exact h3))⟩
 | conv sr ds x b hw hd ho hcv hp hM =>
  rw [if_pos (eo h hw)];unfold acx at hcv;split at hcv <;> try (cases hcv;done)
  rename_i ti td b' e1 e2 e3;split at hcv <;> try (cases hcv;done)
  rename_i el e4 e5;split at hcv <;> try (cases hcv;done)
  rename_i ei e6;split at hcv <;> try (cases hcv;done)
  rename_i e7;simp only [bjb] at hcv;subst hcv;obtain ⟨_,d1,_,p1,q1,_⟩:=b5 (hE sr ti e1);obtain ⟨_,d2,_,p2,q2,_⟩:=b5 (hE ds td e2);obtain ⟨_,d3,_,p3,q3,_⟩:=b5 (hE el ei e6);have r1:d1 = .string:=by rw [e4] at q1;cases d1 <;> simp [jp] at q1 ⊢
  have r2:d2 = .slice el:=ek (q2.symm.trans e5)
  have r3:d3 = .int .u8:=by
   rw [e7] at q3;cases d3 <;> simp [jp] at q3 ⊢;exact q3.symm
  subst r1 r2 r3;have hev:a.eval x = .string b':=(af h e3).1;have hrun:=run_bytes_of_string (P:=P) w sr ds el b' p1 p2 p3
  have hex:(execOp a.eval o).run P w = .ok (.value (.slice (some ⟨w.heap.size,0,none⟩) b'.size (grownCap w b'.size 0 el)))
   (w.drew.alloc (.cells (bytesRow b' (grownCap w b'.size 0 el)) el ((bytesRow b' (grownCap w b'.size 0 el)).size,(bytesRow b' (grownCap w b'.size 0 el)).size + 1))):=by
   unfold execOp;simp only [ho,hev,bkf,hrun,bjx,bl1]
  unfold Oper.wp;rw [hex];generalize hob:Obj.cells (bytesRow b' (grownCap w b'.size 0 el)) el ((bytesRow b' (grownCap w b'.size 0 el)).size,(bytesRow b' (grownCap w b'.size 0 el)).size + 1) = ob
  have h':=h.later (w.drew.alloc ob) ⟨rfl,rfl,rfl,by simp,fun k hk=>am8 w _ hk,bmi _⟩ (fun k=>if k = w.heap.size then some ob else c.imm k) (fun k hk=>if_neg bnl) (fun k ob' hk=>by
   by_cases hkk:k = w.heap.size
   · rw [if_pos hkk] at hk
     rw [hkk,<- Option.some.inj hk];exact heap_alloc_new w.drew _
   rw [if_neg hkk] at hk;have hw':=h.imm k ob' hk
   exact (am8 w _ (bjf.1 hw').1).trans hw')
  refine hK _ _ ⟨_,by exact hold,h'.putD o.dst (j7 hd) (some (.v (.one (.p (.sl b'.size 1 false (ara b')))))) _ (fun y hy=>?_)⟩;simp only [bjb] at hy;subst hy;refine ⟨some ⟨w.heap.size,0,none⟩,_,rfl,grownCap_ge w _ _ _,grownCap_le_maxLen w _ _ _ hp,(fun hf=>by cases hf),fun _=>⟨w.heap.size,0,rfl,fun i j hi hj=>?_⟩⟩;obtain rfl:j = 0:=by omega
  refine ⟨.int .u8 (kw b' i), ?_,rfl,rfl⟩;unfold je;dsimp only;rw [if_pos rfl,<- hob];dsimp only;unfold bytesRow kw;have hsz:b'.data.size = b'.size:=rfl;rw [bms bnv];have hlt:i < b'.data.size:=by omega
  simp;exact ⟨b'.data[i],by simp,by simp [bk9 hlt]⟩
 | call cl f fst caps args p vs b hw hd ho hc hf hv hp hco hpure hb hM =>
  rw [if_pos (eo h hw)];obtain ⟨fn,hfn,hname,hbody⟩:=hf;obtain ⟨q1,q2⟩:=a2g h (b05 h) hv hp
  obtain ⟨fo,us,cs,hcal,e1,hfst,hcapr⟩:∃ (fo:Operand) (us cs:List Value),cl.callee = .value fo /\ a.eval fo = .func (.func f) us.toArray cs.toArray /\ (∀ m:Imm,Imm.le c.imm m -> cn m fst us) /\ ∀ m:Imm,Imm.le c.imm m -> cn m caps cs:=by
   unfold callee at hc;split at hc <;> try (cases hc;done)
   rename_i fo hcal;split at hc <;> try (cases hc;done)
   · rename_i g k capf hfo
     simp only [bjb,bjl] at hc;obtain ⟨rfl,rfl,rfl⟩:=hc;obtain ⟨cs,e1,hcl,hcr⟩:=af h hfo;refine ⟨fo,[],cs,hcal,e1,fun _ _=>trivial,fun m hm=>?_⟩
     have:=ue (m:=m) (caps:=capf) k 0 cs bnl (fun j hj=>by
      obtain ⟨x,hx,hr⟩:=hcr j bnl
      exact ⟨x,hx,az.mono hm hr⟩)
     simpa using this
   rename_i g k fr hfo;simp only [bjb,bjl] at hc;obtain ⟨rfl,rfl,rfl⟩:=hc;obtain ⟨cs,e1,hcl,hcr⟩:=af h hfo;refine ⟨fo,[.agg cs.toArray],[],hcal,e1,fun m hm=>⟨⟨cs,rfl, ?_⟩,trivial⟩,fun _ _=>trivial⟩
   have:=afm (m:=m) (f:=fr) k 0 cs bnl (fun j hj=>by
    obtain ⟨x,hx,hr⟩:=hcr j bnl
    exact ⟨x,hx,az.mono hm hr⟩)
   simpa using this
  have hrun:(execOp a.eval o).run P w = .ok (.enter f (us ++ ((cl.args.toList.map a.eval) ++ cs)).toArray) w:=by
   unfold execOp;simp only [ho,resolve,hcal,bkf,e1,Deferred.ofValue,bl1,bjx,invoke,callFunc,run_program,hfn,hname,hbody];simp
  unfold Oper.wp;rw [hrun];rw [Oper.upon_enter]
  cases hbb:b with
  | false =>
   have hargs:cn c.imm args (us ++ (cl.args.toList.map a.eval ++ cs)):=CoL.sound hco (cn.append (hfst _ (Imm.le.refl _)) (cn.append (q2 hbb) (hcapr _ (Imm.le.refl _))));refine (hpure w c.imm _ c.tab h.imm hargs).mono ?_;rintro e w' ⟨v,imm',rfl,hr,h1,h2,h3⟩;have h':=h.later w' h3 imm' h1 h2
   exact hK _ _ ⟨_,by exact hold,h'.putD o.dst (j7 hd) (some an.res.toH) v (fun y hy=>by
    simp only [bjb] at hy;subst hy
    exact ap.of_P hr)⟩
  | true =>
   have hflat:an.res.flat = true:=by rw [hbb] at hb;simpa using hb
   have hargs:cn (gc w) args (us ++ (cl.args.toList.map a.eval ++ cs)):=CoL.sound hco (cn.append (hfst _ (xj h)) (cn.append q1 (hcapr _ (xj h))));refine (hpure w (gc w) _ (c.tab.mono (xj h)) (fun _ _ hh=>hh) hargs).mono ?_;rintro e w' ⟨v,imm',rfl,hr,h1,h2,h3⟩
   have h':=h.later w' h3 (fun b=>if b < w.heap.size then c.imm b else none) (fun b hb=>by simp [hb]) (fun b ob hbo=>by
    by_cases hlt:b < w.heap.size
    · simp only [hlt,if_true] at hbo
      rw [h3.block b hlt];exact h.imm b ob hbo
    simp [hlt] at hbo)
   exact hK _ _ ⟨_,by exact hold,h'.putD o.dst (j7 hd) (some an.res.toH) v (fun y hy=>by
    simp only [bjb] at hy;subst hy
    exact ap.of_P (rh.flat hflat hr))⟩
 | fcall cl f caps args hcs o1 o2 res fx hw hd ho hc hf hv hco hfun hsub hnew hnm hcl hclr hW hN hM =>
  rw [if_pos (eo h hw)];unfold va at hc;split at hc <;> try (cases hc;done)
  rename_i fo hcal;obtain ⟨fn,hfn,hname,hbody⟩:=hf
  obtain ⟨cs,e1,hcapr⟩:∃ cs:List Value,a.eval fo = .func (.func f) #[] cs.toArray /\ bu c s.o caps cs:=by
   split at hc <;> try (cases hc;done)
   · rename_i g k capf hfo
     simp only [bjb,bjl] at hc;obtain ⟨rfl,rfl⟩:=hc;obtain ⟨cs,e1,hcl',hcr⟩:=af h hfo;refine ⟨cs,e1, ?_⟩
     have:=ue (m:=c.imm) (caps:=capf) k 0 cs bnl (fun j hj=>by
      obtain ⟨x,hx,hr⟩:=hcr j bnl
      exact ⟨x,hx,hr⟩)
     exact bu.of_P (by simpa using this)
   rename_i g k capf hfo;simp only [bjb,bjl] at hc;obtain ⟨rfl,rfl⟩:=hc;obtain ⟨cs,e1,hcl',hcr⟩:=af h hfo;refine ⟨cs,e1, ?_⟩;have:=a4f (c:=c) (o:=s.o) (caps:=capf) k 0 cs bnl (fun j hj=>hcr j bnl);simpa using this
  have hrun:(execOp a.eval o).run P w = .ok (.enter f ((cl.args.toList.map a.eval) ++ cs).toArray) w:=by
   unfold execOp;simp only [ho,resolve,hcal,bkf,e1,Deferred.ofValue,bl1,bjx,invoke,callFunc,run_program,hfn,hname,hbody];simp
  have hargs:bu c s.o args (cl.args.toList.map a.eval ++ cs):=bu.co hco (bu.append (a8l h hv) hcapr);obtain ⟨hmem,hto⟩:=h.lend hsub;unfold Oper.wp;rw [hrun];rw [Oper.upon_enter];refine (hfun w c _ hmem (hto _ _ hargs)).mono ?_;rintro e w' ⟨v,c',rfl,hr,hm',hbel,hfr,hbk,hfx⟩;obtain ⟨c'',q1,_,q2,q3⟩:=h.fcall hsub (fun id h2 h1=>hnew id h2 h1) (fun id h2 h1=>hnm id h2 h1) hcl hm' hbel hfr hbk hfx
  exact hK _ _ ⟨c'',q1.trans hold,q2.putD o.dst (j7 hd) (some res) v (fun y hy=>by
   simp only [bjb] at hy;subst hy
   exact q3 _ _ hr hclr)⟩
def a5u (hE:cu P E) {ro:Option Nat} {n:Nat} {x:Option HR} {wr:Wr} (he:Eff P E nt ops o an s x wr) (h:Rel w0 m0 nt s a w) {i:Nat} (hi:ops[i]? = some o) (hK:∀ a' w',Rel w0 m0 nt (s.after o.dst x wr) a' w' -> K a' w'):wpOpIn (rf ro) n P ops Q i K a w:=by
 have h1:=aqw hE he h hi (Q:=Q) hK;unfold asa at h1;unfold wpOpIn;simp only [hi] at h1 ⊢;obtain ⟨c,hold,hr⟩:=h
 rcases he.nd with hn | hn
 · have hw:=eo hr hn
   rw [if_neg (by rw [hw];simp)] at h1 ⊢;exact ⟨fun _ _=>trivial,h1⟩
 split
 · rename_i hw
   rw [if_pos hw] at h1;exact a8j hn h1
 rename_i hw;rw [if_neg hw] at h1;exact ⟨fun _ _=>trivial,h1⟩
end
end
end
section
open Go.RowKit
section
variable {E:Env} {ex:Bool} {o o':b4} {e e':Ev}
section
variable {x:Operand}
def fb {r:HR} (hx:e x = some r):∀ {l:List Operand},x ∈ l -> ∀ k ∈ r.ids,k ∈ dm e l
 | y :: l,hm,k,hk=>by
  rcases bjq.1 hm with rfl | hm
  · simp only [dm,hx];exact bju _ hk
  simp only [dm];exact bk2 _ (fb hx hm k hk)
def qv:∀ {l:List Operand},(∀ x ∈ l,e' x = e x) -> dm e' l = dm e l
 | [],_=>rfl
 | x :: l,h=>by
  simp only [dm];rw [h x bnp,qv fun y hy=>h y (by simp [hy])]
def bnt {p:Prop} (h:p:=by simp [HV.ids]):p:=h
variable {h:HV}
def a0e (ho:∀ k ∈ h.ids,o' k = o k):tgt o' h = tgt o h:=by
 cases h with
 | p x=>cases x <;> rfl
 | ref id n=>rfl
 | ptr id off=>simp only [tgt];rw [ho id bnt]
 | eptr id n i j=>simp only [tgt];rw [ho id bnt]
 | win id n i m=>rfl
 | clo g k caps=>rfl
 | row id i k=>rfl
 | rptr id i k r j=>simp only [tgt];rw [ho id bnt]
 | pin id n ad cap=>rfl
def a10 {places:List (Nat × Nat)}:∀ {parts:List (Nat × Operand)} {cells:List HV},(∀ x ∈ parts.map (·.2),e' x = e x) -> i7 e' places cells parts = i7 e places cells parts
 | [],_,_=>rfl
 | (i,x) :: r,cells,h=>by
  have hx:=h x bnp;have ih:∀ cells,i7 e' places cells r = i7 e places cells r:=fun cells=>a10 fun y hy=>h y (by simp at hy ⊢;exact .inr hy);simp only [i7,hx,ih]
def a8y:∀ {l:List Operand},(∀ x ∈ l,e' x = e x) -> a0d e' l = a0d e l
 | [],_=>rfl
 | x :: l,h=>by
  simp only [a0d];rw [h x bnp,a8y fun y hy=>h y (by simp [hy])]
def a8t:∀ {l:List Operand},(∀ x ∈ l,e' x = e x) -> zz e' l = zz e l
 | [],_=>rfl
 | x :: l,h=>by
  simp only [zz];rw [h x bnp,a8t fun y hy=>h y (by simp [hy])]
def mo {x:Option Operand} (h:∀ y ∈ x.toList,e' y = e y):iw e' x = iw e x:=by
 cases x with
 | none=>rfl
 | some y=>simp only [iw];rw [h y bnp]
def abt {b:Builtin} {args:List Operand} {tys:List TypeId} (h:∀ x ∈ args,e' x = e x):th E e' b args tys = th E e b args tys:=by
 unfold th;split
 · rename_i x t r
   rw [h x bnp]
 · rename_i x y
   rw [h x bnp,h y bnp]
 · rename_i x y
   rw [h x bnp,h y bnp]
 rfl
def ar3 (ho:∀ k ∈ h.ids,o' k = o k):a6a o' h = a6a o h:=by
 cases h with
 | ref id n=>simp only [a6a];rw [ho id bnt]
 | win id n i m=>simp only [a6a];rw [ho id bnt]
 | row id i k=>simp only [a6a];rw [ho id bnt]
 | _=>rfl
variable {n:Nat}
def as2 {i:Int} (ho:∀ k ∈ h.ids,o' k = o k):aa4 o' n i h = aa4 o n i h:=by
 cases h with
 | ref id n=>simp only [aa4];rw [ho id bnt]
 | win id n i m=>simp only [aa4];rw [ho id bnt]
 | row id i k=>simp only [aa4];rw [ho id bnt]
 | p x=>cases x <;> rfl
 | _=>rfl
def aj9 {x y z:Option Int} (ho:∀ k ∈ h.ids,o' k = o k):zw o' n x y z h = zw o n x y z h:=by
 cases h with
 | ref id n=>simp only [zw];rw [ho id bnt]
 | win id n i m=>simp only [zw];rw [ho id bnt]
 | _=>rfl
def afs {l:List Operand} {F:b4 -> HV -> Option Out} {α:Type} {d:α} {G:Option Out -> α} (hF:∀ h:HV,(∀ k ∈ h.ids,o' k = o k) -> F o' h = F o h) (hl:x ∈ l) (ho:∀ k ∈ dm e l,o' k = o k):
 (match e x with | some (.v (.one h))=>G (F o' h) | _=>d) = (match e x with | some (.v (.one h))=>G (F o h) | _=>d):=by
 cases hex:e x with
 | none=>rfl
 | some r =>
  cases r with
  | tup l=>rfl
  | v cc =>
   cases cc with
   | agg l=>rfl
   | one h =>
    dsimp only;rw [hF h fun k hk=>ho k (fb hex hl k hk)]
def afb {b:Builtin} {args:List Operand} {tys:List TypeId} (h:∀ x ∈ args,e' x = e x) (ho:∀ k ∈ dm e args,o' k = o k):uw E o' e' b args tys = uw E o e b args tys:=by
 unfold uw;split
 · rename_i x t r
   rw [h x bnp]
   cases E t with
   | none=>rfl
   | some ti =>
    dsimp only;cases ti.k <;> try rfl
    exact afs (G:=id) (F:=a6a) (fun h hh=>ar3 hh) bnp ho
 rfl
def ana (ho:∀ k ∈ dm e [x],o' k = o k):rg o' e x = rg o e x:=by
 unfold rg
 cases hex:e x with
 | none=>rfl
 | some r =>
  cases r with
  | tup l=>rfl
  | v cc =>
   cases cc with
   | agg l=>rfl
   | one h =>
    have:=a0e (o:=o) (o':=o') (h:=h) (fun k hk=>ho k (fb hex bnp k hk))
    cases h with
    | p x=>cases x <;> rfl
    | ref id n=>rfl
    | ptr id off=>dsimp only;rw [this]
    | eptr id n i j=>dsimp only;rw [this]
    | win id n i m=>rfl
    | clo g k caps=>rfl
    | row id i k=>rfl
    | rptr id i k r j=>dsimp only;rw [this]
    | pin id n ad cap=>rfl
variable {t:TypeId}
def al2 (ho:∀ k ∈ dm e [x],o' k = o k):mw E o' e t x = mw E o e t x:=by
 unfold mw
 cases E t with
 | none=>rfl
 | some i =>
  dsimp only
  cases hex:e x with
  | none=>rfl
  | some r =>
   cases r with
   | tup l=>rfl
   | v cc =>
    cases cc with
    | agg l=>rfl
    | one h =>
     dsimp only;rw [a0e (o:=o) (o':=o') (h:=h) (fun k hk=>ho k (fb hex bnp k hk))]
def a8h {k:Nat} (ho:∀ k ∈ dm e [x],o' k = o k):fq E o' e t x k = fq E o e t x k:=by
 unfold fq
 cases E t with
 | none=>rfl
 | some i =>
  dsimp only;cases i.k <;> try rfl
  rename_i fs;dsimp only
  cases fs[k]? with
  | none=>rfl
  | some q =>
   obtain ⟨off,ft,bl⟩:=q;dsimp only
   cases E ft with
   | none=>rfl
   | some fi =>
    dsimp only
    cases hex:e x with
    | none=>rfl
    | some r =>
     cases r with
     | tup l=>rfl
     | v cc =>
      cases cc with
      | agg l=>rfl
      | one h =>
       dsimp only;rw [a0e (o:=o) (o':=o') (h:=h) (fun k hk=>ho k (fb hex bnp k hk))]
variable {el:TypeId} {i:Operand}
def a9b {len:Nat} (ho:∀ k ∈ dm e [x],o' k = o k):nc E o' e len el x i = nc E o e len el x i:=by
 unfold nc
 cases E el with
 | none=>rfl
 | some ei =>
  dsimp only
  cases hex:e x with
  | none=>rfl
  | some r =>
   cases r with
   | tup l=>rfl
   | v cc =>
    cases cc with
    | agg l=>rfl
    | one h =>
     dsimp only;rw [a0e (o:=o) (o':=o') (h:=h) (fun k hk=>ho k (fb hex bnp k hk))]
def a8d (ho:∀ k ∈ dm e [x],o' k = o k):gl E o' e t x i = gl E o e t x i:=by
 unfold gl
 cases E t with
 | none=>rfl
 | some ii =>
  dsimp only;cases ii.k <;> try rfl
  case array len el=>exact a9b ho
  rename_i el;dsimp only
  cases E el with
  | none=>rfl
  | some ei =>
   dsimp only
   cases hex:e x with
   | none=>rfl
   | some r =>
    cases r with
    | tup l=>rfl
    | v cc =>
     cases cc with
     | agg l=>rfl
     | one h =>
      dsimp only;have:=fun iv=>as2 (o:=o) (o':=o') (h:=h) (n:=ei.size) (i:=iv) (fun k hk=>ho k (fb hex bnp k hk));simp only [this]
def anb {kk:KK} {m:MK} {z:Value} {cm:Bool} (ho:∀ k ∈ h.ids,o' k = o k):abc o' kk m z cm h = abc o kk m z cm h:=by
 cases h with
 | ref id n=>simp only [abc];rw [ho id bnt]
 | _=>rfl
def adw {cm:Bool} (ho:∀ k ∈ dm e [x],o' k = o k):kf E o' e t x i cm = kf E o e t x i cm:=by
 unfold kf
 cases E t with
 | none=>rfl
 | some ii =>
  dsimp only;cases ii.k <;> try rfl
  rename_i kt et;dsimp only
  cases aqx E kt et with
  | none=>rfl
  | some q =>
   obtain ⟨kk,z⟩:=q;dsimp only
   cases hex:e x with
   | none=>rfl
   | some r =>
    cases r with
    | tup l=>rfl
    | v cc =>
     cases cc with
     | agg l=>rfl
     | one h =>
      dsimp only;have:=fun m=>anb (o:=o) (o':=o') (h:=h) (kk:=kk) (m:=m) (z:=z) (cm:=cm) (fun k hk=>ho k (fb hex bnp k hk));simp only [this]
def bnr {p:Prop} (h:p:=by simp [Op.operands]):p:=h
variable {op:Op}
def ayt (hx:∀ x ∈ op.operands,e' x = e x) (ho:∀ k ∈ dm e op.operands.toList,o' k = o k):hq E ex o' e' op = hq E ex o e op:=by
 cases op <;> try rfl
 case move x=>show Option.map _ (e' x) = Option.map _ (e x);rw [hx x bnr]
 case assign x=>show Option.map _ (e' x) = Option.map _ (e x);rw [hx x bnr]
 case pick c x y =>
  show a2d e' c x y = a2d e c x y;unfold a2d;rw [hx c bnr,hx x bnr,hx y bnr]
 case nilCheck x =>
  show rg o' e' x = rg o e x;have h1:rg o' e' x = rg o' e x:=by unfold rg;rw [hx x bnr]
  rw [h1];exact ana (by simpa [Op.operands] using ho)
 case load t x =>
  show mw E o' e' t x = mw E o e t x;have h1:mw E o' e' t x = mw E o' e t x:=by unfold mw;rw [hx x bnr]
  rw [h1];exact al2 (by simpa [Op.operands] using ho)
 case fieldAddr t x k =>
  show fq E o' e' t x k = fq E o e t x k;have h1:fq E o' e' t x k = fq E o' e t x k:=by unfold fq;rw [hx x bnr]
  rw [h1];exact a8h (by simpa [Op.operands] using ho)
 case field t x k =>
  show y7 E e' t x k = y7 E e t x k;unfold y7;rw [hx x bnr]
 case indexAddr t x i =>
  show gl E o' e' t x i = gl E o e t x i;have h1:gl E o' e' t x i = gl E o' e t x i:=by unfold gl nc;rw [hx x bnr,hx i bnr]
  rw [h1];refine a8d fun k hk=>ho k ?_;simp only [dm,Op.operands,bkd] at hk ⊢;exact bju _ hk
 case lookup t x i cm =>
  show kf E o' e' t x i cm = kf E o e t x i cm;have h1:kf E o' e' t x i cm = kf E o' e t x i cm:=by unfold kf;rw [hx x bnr,hx i bnr]
  rw [h1];refine adw fun k hk=>ho k ?_;simp only [dm,Op.operands,bkd] at hk ⊢;exact bju _ hk
 case index t x i =>
  show y9 E e' t x i = y9 E e t x i;unfold y9;rw [hx x bnr,hx i bnr]
 case binOp op t x y ty =>
  have h1:a7b E ex e' op t x y = a7b E ex e op t x y:=by
   unfold a7b;rw [hx x bnr,hx y bnr]
  have h2:un E e' op t x y = un E e op t x y:=by
   unfold un;rw [hx x bnr]
  simp only [hq];rw [h1,h2]
 case unOp op t x =>
  show aej ex e' op x = aej ex e op x;unfold aej;rw [hx x bnr]
 case convert src dst x =>
  show a29 E ex e' src dst x = a29 E ex e src dst x;unfold a29;rw [hx x bnr]
 case extract x i =>
  show t6 e' x i = t6 e x i;unfold t6;rw [hx x bnr]
 case slice t x lo hi mx =>
  have e0:=hx x bnr;have e1:=mo (e:=e) (e':=e') (x:=lo) (fun y hy=>hx y (by simp [Op.operands];simp at hy;simp [hy]));have e2:=mo (e:=e) (e':=e') (x:=hi) (fun y hy=>hx y (by simp [Op.operands];simp at hy;simp [hy]));have e3:=mo (e:=e) (e':=e') (x:=mx) (fun y hy=>hx y (by simp [Op.operands];simp at hy;simp [hy]))
  have h1:ll E e' t x lo hi mx = ll E e t x lo hi mx:=by
   unfold ll;rw [e0,e1,e2,e3]
  have h2:a7k E o' e' t x lo hi mx = a7k E o e t x lo hi mx:=by
   unfold a7k;rw [e0,e1,e2,e3]
   cases E t with
   | none=>rfl
   | some ti =>
    dsimp only;cases ti.k <;> try rfl
    rename_i el;dsimp only
    cases E el with
    | none=>rfl
    | some ei =>
     dsimp only
     cases iw e lo with
     | none=>rfl
     | some l =>
      cases iw e hi with
      | none=>rfl
      | some hh =>
       cases iw e mx with
       | none=>rfl
       | some m =>
        dsimp only;exact afs (G:=id) (F:=fun o h=>zw o ei.size l hh m h) (fun h hh=>aj9 hh) (l:=(Op.slice t x lo hi mx).operands.toList) bnr ho
  simp only [hq];rw [h1,h2]
 case makeFunc fn first caps =>
  show a2i e' fn first.toList caps.toList = a2i e fn first.toList caps.toList
  unfold a2i;rw [a8y (l:=caps.toList) (fun y hy=>hx y (by simp [Op.operands];simp at hy;exact .inr hy)),a8t (l:=caps.toList) (fun y hy=>hx y (by simp [Op.operands];simp at hy;exact .inr hy))];split
  · rfl
  · rename_i f x hf
    rw [hx x (by simp [Op.operands];left;rw [<- Array.mem_toList_iff,hf];simp)]
  rfl
 case build t parts =>
  show yf E e' t parts.toList = yf E e t parts.toList;have hf:∀ places cells,i7 e' places cells parts.toList = i7 e places cells parts.toList:=fun places cells=>a10 fun x hm=>hx x (by simpa [Op.operands] using hm);unfold yf;simp only [hf]
 case call c =>
  simp only [hq]
  cases hc:c.callee with
  | value f=>rfl
  | invoke r m=>rfl
  | builtin b =>
   simp only [Op.operands,Call.operands,hc] at hx ho;have h1:∀ x ∈ c.args.toList,e' x = e x:=fun x hm=>hx x (by simpa using hm);have h2:∀ k ∈ dm e c.args.toList,o' k = o k:=fun k hk=>ho k (by simpa using hk);dsimp only;rw [abt h1,afb h1 h2]
variable {id:Nat}
def b04 (hx:∀ x ∈ op.operands,e' x = e x):ha E e' id op = ha E e id op:=by
 cases op <;> simp only [ha] <;> simp only [Op.operands] at hx
 case box t x=>rw [hx x bnp]
 case buildSlice t n parts =>
  have hf:∀ sz cells,a87 e' sz n parts.toList cells = a87 e sz n parts.toList cells:=fun sz cells=>by
   unfold a87;exact a10 fun x hm=>hx x (by simpa using hm)
  simp only [hf]
 case makeSlice t l c=>rw [hx l bnp,hx c bnp]
def ah2 {y:Operand} (ho:∀ k ∈ dm e [x,y],o' k = o k):lm E o' e t x y = lm E o e t x y:=by
 unfold lm
 cases E t with
 | none=>rfl
 | some i =>
  cases hv:e y with
  | none=>rfl
  | some rv =>
   cases rv with
   | tup l=>rfl
   | v cv =>
    cases hex:e x with
    | none=>rfl
    | some r =>
     cases r with
     | tup l=>rfl
     | v cc =>
      cases cc with
      | agg l=>rfl
      | one h =>
       cases h with
       | p x=>cases x <;> rfl
       | ref id n=>rfl
       | ptr id off=>dsimp only;rw [ho id (fb hex bnp id (by simp [HR.ids,HC.ids,HV.ids]))]
       | eptr id n r j=>dsimp only;rw [ho id (fb hex bnp id (by simp [HR.ids,HC.ids,HV.ids]))]
       | win id n i m=>rfl
       | clo g k caps=>rfl
       | row id i k=>rfl
       | rptr id i k r j=>dsimp only;rw [ho id (fb hex bnp id (by simp [HR.ids,HC.ids,HV.ids]))]
       | pin id n ad cap=>rfl
def aiz {kk:KK} {m:MK} {y:PV} (ho:∀ k ∈ h.ids,o' k = o k):a4x o' kk m y h = a4x o kk m y h:=by
 cases h with
 | ref id n=>simp only [a4x];rw [ho id bnt]
 | _=>rfl
def anp {v:Operand} (ho:∀ k ∈ dm e [x],o' k = o k):u6 E o' e t x i v = u6 E o e t x i v:=by
 unfold u6
 cases E t with
 | none=>rfl
 | some ii =>
  dsimp only;cases ii.k <;> try rfl
  rename_i kt et;dsimp only
  cases E kt with
  | none=>rfl
  | some ki =>
   dsimp only
   cases hex:e x with
   | none=>rfl
   | some r =>
    cases r with
    | tup l=>rfl
    | v cc =>
     cases cc with
     | agg l=>rfl
     | one h =>
      dsimp only;have:=fun kk m y=>aiz (o:=o) (o':=o') (h:=h) (kk:=kk) (m:=m) (y:=y) (fun k hk=>ho k (fb hex bnp k hk));simp only [this]
def alh (hx:∀ x ∈ op.operands,e' x = e x) (ho:∀ k ∈ dm e op.operands.toList,o' k = o k):hs E o' e' op = hs E o e op:=by
 cases op <;> try rfl
 case mapUpdate t x i v =>
  show u6 E o' e' t x i v = u6 E o e t x i v;have h1:u6 E o' e' t x i v = u6 E o' e t x i v:=by unfold u6;rw [hx x bnr,hx i bnr,hx v bnr]
  rw [h1];refine anp fun k hk=>ho k ?_;simp only [dm,Op.operands,bkd] at hk ⊢;exact bju _ hk
 case store t addr v =>
  show lm E o' e' t addr v = lm E o e t addr v;have h1:lm E o' e' t addr v = lm E o' e t addr v:=by unfold lm;rw [hx addr bnr,hx v bnr]
  rw [h1];exact ah2 (by simpa [Op.operands] using ho)
def a93 (ho:∀ k ∈ h.ids,o' k = o k):xr o' id h = xr o id h:=by
 cases h with
 | p x =>
  cases x with
  | raw v =>
   cases v with
   | slice a n c=>cases n <;> rfl
   | _=>rfl
  | _=>rfl
 | ref id' n=>simp only [xr];rw [ho id' bnt]
 | _=>rfl
variable {wb:Bool}
def a0r {y:HV} (hid:o' id = o id) (ho:∀ k ∈ y.ids,o' k = o k):rz E o' id n wb el y = rz E o id n wb el y:=by
 simp only [rz];rw [hid,a93 ho]
def abq (ho:∀ k ∈ h.ids,o' k = o k):a4k o' id h = a4k o id h:=by
 simp only [a4k];rw [a93 ho]
 cases h with
 | ref id' n=>simp only;rw [ho id' bnt]
 | _=>rfl
def amb {y:HV} (hid:o' id = o id) (ho:∀ k ∈ y.ids,o' k = o k):yy E o' id n el y = yy E o id n el y:=by
 simp only [yy];rw [hid,abq ho]
def asz {y:HV} (hid:o' id = o id) (ho:∀ k ∈ y.ids,o' k = o k):aap E o' id n el y = aap E o id n el y:=by
 simp only [aap];rw [hid,abq ho]
def anl {i k:Nat} {y:HV} (hid:o' id = o id):a3y E o' el id n i k y = a3y E o el id n i k y:=by
 unfold a3y;rw [hid]
def ars {z:List Value} (ho:∀ k ∈ h.ids,o' k = o k):af4 o' z n h = af4 o z n h:=by
 cases h with
 | win id n i m=>simp only [af4];rw [ho id bnt]
 | _=>rfl
def ang {hy hx:HV} (h1:∀ k ∈ hx.ids,o' k = o k) (h2:∀ k ∈ hy.ids,o' k = o k):xm E o' id wb el hy hx = xm E o id wb el hy hx:=by
 cases hx with
 | win id1 n i k =>
  simp only [xm];exact anl (h1 id1 bnt)
 | pin id1 n ad cap =>
  simp only [xm];rw [a0r (o:=o) (o':=o') (h1 id1 bnt) h2]
 | ref id1 n =>
  simp only [xm];rw [a0r (o:=o) (o':=o') (h1 id1 bnt) h2,amb (o:=o) (o':=o') (h1 id1 bnt) h2,asz (o:=o) (o':=o') (h1 id1 bnt) h2]
 | p px =>
  cases px with
  | sl n sz cl f =>
   cases cl with
   | false=>rfl
   | true =>
    simp only [xm]
    cases E el with
    | none=>rfl
    | some ei =>
     dsimp only
     rw [a0r (o:=fun k=>if k = id then some (aa.arr false ei.size el n f) else o k) (o':=fun k=>if k = id then some (aa.arr false ei.size el n f) else o' k) bnp (fun k hk=>by
      try dsimp only
      split
      · rfl
      exact h2 k hk)]
  | _=>rfl
 | _=>rfl
def anf {x y:Option HR} (hx:∀ r,x = some r -> ∀ k ∈ r.ids,o' k = o k) (hy:∀ r,y = some r -> ∀ k ∈ r.ids,o' k = o k):
 a6x E o' id wb t x y = a6x E o id wb t x y:=by
 unfold a6x
 cases E t with
 | none=>rfl
 | some i =>
  dsimp only;cases i.k <;> try rfl
  rename_i el
  cases x with
  | none=>rfl
  | some rx =>
   cases rx with
   | tup l=>rfl
   | v cx =>
    cases cx with
    | agg l=>rfl
    | one hxv =>
     cases y with
     | none=>rfl
     | some ry =>
      cases ry with
      | tup l=>rfl
      | v cy =>
       cases cy with
       | agg l=>rfl
       | one hyv=>exact ang (hx _ rfl) (hy _ rfl)
def avt (hx:∀ x ∈ op.operands,e' x = e x) (ho:∀ k ∈ dm e op.operands.toList,o' k = o k):hap E o' e' id wb op = hap E o e id wb op:=by
 cases op <;> try rfl
 case call c =>
  unfold hap;dsimp only;split
  · rename_i hc
    simp only [Op.operands,Call.operands,hc] at hx ho;have h1:∀ x ∈ c.args.toList,e' x = e x:=fun x hm=>hx x (by simpa using hm);have h2:∀ k ∈ dm e c.args.toList,o' k = o k:=fun k hk=>ho k (by simpa using hk);generalize c.args.toList = l at h1 h2;unfold a82;split
    · rename_i x y t t' _
      split
      · rw [h1 x bnp,h1 y bnp]
        exact anf (fun r hr k hk=>h2 k (fb hr bnp k hk)) (fun r hr k hk=>h2 k (fb hr bnp k hk))
      rfl
    rfl
  · rename_i hc
    simp only [Op.operands,Call.operands,hc] at hx ho;have h1:∀ x ∈ c.args.toList,e' x = e x:=fun x hm=>hx x (by simpa using hm);have h2:∀ k ∈ dm e c.args.toList,o' k = o k:=fun k hk=>ho k (by simpa using hk);generalize c.args.toList = l at h1 h2;unfold yj;split
    · rename_i x t _
      rw [h1 x bnp]
      cases E t with
      | none=>rfl
      | some ti =>
       dsimp only;cases ti.k <;> try rfl
       rename_i el;dsimp only
       cases E el with
       | none=>rfl
       | some ei =>
        dsimp only
        cases ei.zero with
        | none=>rfl
        | some z =>
         dsimp only;split
         · cases hex:e x with
           | none=>rfl
           | some r =>
            cases r with
            | tup l=>rfl
            | v cc =>
             cases cc with
             | agg l=>rfl
             | one hv=>exact ars fun k hk=>h2 k (fb hex bnp k hk)
         rfl
    rfl
  rfl
def a91 (ho:∀ k ∈ h.ids,o' k = o k):a42 o' h = a42 o h:=by
 cases h with
 | ref id n=>simp only [a42];rw [ho id bnt]
 | _=>rfl
end
end
end
end Go.Hx

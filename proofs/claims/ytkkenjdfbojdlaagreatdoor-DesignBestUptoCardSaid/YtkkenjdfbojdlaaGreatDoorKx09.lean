/- A part of the proof: Hx10 Hx11. -/
import Derived.Laws.IdiomStrings
import Derived.OrdersIn
import Derived.RangeFuncCalls
import Derived.RangeFuncNested
import Derived.Test.YtkkenjdfbojdlaaGreatDoorKx08
set_option linter.all false
namespace Go.Hx
section
open Go.RowKit
def a6 (P:Program) (f:FuncId) (args:List PC) (res:PR):Prop :=
 ∀ (w:World) (imm:Imm) (us:List Value),so imm -> (∀ b ob,imm b = some ob -> w.heap[b]? = some ob) -> cn imm args us ->
  Calls P f us.toArray w fun e w'=>∃ v imm',e = .returned v /\ sq imm' res v /\ (∀ b,b < w.heap.size -> imm' b = imm b) /\ (∀ b ob,imm' b = some ob -> w'.heap[b]? = some ob) /\ Below w.heap.size w w'
def a4h (o:b7):HV -> Option (Prop × PV × Bool)
 | .p x=>some (True,x,false)
 | .ref id n =>
  match o id with
  | some (.arr _ s _ n' f)=>some (n' = n, .sl n s false f,true)
  | _=>none
 | _=>none
def yn (o:b7):List HV -> Option (Prop × List PV × Bool)
 | []=>some (True,[],false)
 | x :: r =>
  match a4h o x,yn o r with
  | some (p,y,b),some (q,ys,b')=>some (p /\ q,y :: ys,b || b')
  | _,_=>none
def a8b (o:b7):HV -> Option (Prop × PV × Bool)
 | .ptr id off =>
  match o id with
  | some (.box l) =>
   match yn o (l.drop off) with
   | some (p,ys,_)=>some (p, .vp ys.length fun j=>ys.getD j .any,true)
   | none=>none
  | _=>none
 | h=>a4h o h
def a1j (o:b7):HC -> Option (Prop × PC × Bool)
 | .one h=>match a8b o h with | some (p,y,b)=>some (p, .one y,b) | none=>none
 | .agg l=>match yn o l with | some (p,ys,b)=>some (p, .agg ys,b) | none=>none
def kf (o:b7) (e:Ev):List Operand -> Option (Prop × List PC × Bool)
 | []=>some (True,[],false)
 | x :: r =>
  match e x,kf o e r with
  | some (.v cc),some (q,ys,b')=>match a1j o cc with | some (p,y,b)=>some (p /\ q,y :: ys,b || b') | none=>none
  | _,_=>none
def ip (caps:Nat -> PV):Nat -> Nat -> List PC
 | 0,_=>[]
 | n + 1,i=>.one (caps i) :: ip caps n (i + 1)
def PV.flat:PV -> Bool
 | .raw _=>true
 | .any=>true
 | _=>false
def ais:List PV -> Bool
 | []=>true
 | x :: r=>x.flat && ais r
def PC.flat:PC -> Bool
 | .one x=>x.flat
 | .agg l=>ais l
def ad6:List PC -> Bool
 | []=>true
 | x :: r=>x.flat && ad6 r
def PR.flat:PR -> Bool
 | .v x=>x.flat
 | .tup l=>ad6 l
section
variable {m m':Imm}
def b4.flat {x:PV} {u:Value} (hf:x.flat = true) (h:b4 m x u):b4 m' x u:=by
 cases x <;> simp [PV.flat] at hf <;> exact h
def fb.flat:∀ {xs:List PV} {us:List Value},ais xs = true -> fb m xs us -> fb m' xs us
 | [],[],_,_=>trivial
 | _ :: _,_ :: _,hf,h=>by
  simp only [ais,bml] at hf;exact ⟨h.1.flat hf.1,fb.flat hf.2 h.2⟩
 | [],_ :: _,_,h=>h.elim
 | _ :: _,[],_,h=>h.elim
def it.flat {x:PC} {u:Value} (hf:x.flat = true) (h:it m x u):it m' x u:=by
 cases x with
 | one x=>exact b4.flat hf h
 | agg l=>obtain ⟨us,e,hl⟩:=h;exact ⟨us,e,hl.flat hf⟩
def cn.flat:∀ {xs:List PC} {us:List Value},ad6 xs = true -> cn m xs us -> cn m' xs us
 | [],[],_,_=>trivial
 | _ :: _,_ :: _,hf,h=>by
  simp only [ad6,bml] at hf;exact ⟨h.1.flat hf.1,cn.flat hf.2 h.2⟩
 | [],_ :: _,_,h=>h.elim
 | _ :: _,[],_,h=>h.elim
def sq.flat {x:PR} {u:Value} (hf:x.flat = true) (h:sq m x u):sq m' x u:=by
 cases x with
 | v x=>exact it.flat hf h
 | tup l=>obtain ⟨us,e,hl⟩:=h;exact ⟨us,e,hl.flat hf⟩
def gz (w:World):Imm:=fun b=>w.heap[b]?
end
section
variable {P:Program} {E:Env} {w0:World} {nt:Nat} {c:Ctx} {s:S} {a:Act} {w:World}
structure a0m (w0:World) (c:Ctx) (w:World) (m:Imm):Prop where
 le:Imm.le c.imm m
 new:∀ b,c.frm b = none -> b < w.heap.size -> m b = w.heap[b]?
def yg (h:ai w0 nt c s a w):Imm.le c.imm (gz w):=fun b ob hb=>h.imm b ob hb
def b3g (h:ai w0 nt c s a w):a0m w0 c w (gz w):=⟨yg h,fun _ _ _=>rfl⟩
section
variable {m:Imm}
def a9q (hm:a0m w0 c w m) {b off:Nat} {x:Value} (hb:c.frm b = none) (hc:w.cell? ⟨b,off,none⟩ = some x):jp m b off = some x:=by
 have hlt:=World.block_lt_of_cell? w _ hc;unfold World.cell? at hc;unfold jp;rw [hm.new b hb hlt];dsimp only at hc;split at hc
 · rename_i cs e fr hb
   rw [hb];simpa using hc
 cases hc
def aab (h:ai w0 nt c s a w) (hm:a0m w0 c w m) {x:HV} {u:Value} (hu:bn c s.o x u) {p:Prop} {y:PV} {b:Bool} (hv:a4h s.o x = some (p,y,b)) (hp:p):
 b4 m y u /\ (b = false -> b4 c.imm y u):=by
 unfold a4h at hv;split at hv
 · simp only [bm9,bmj] at hv
   obtain ⟨_,rfl,rfl⟩:=hv;exact ⟨b4.mono hm.le hu,fun _=>hu⟩
 · rename_i id n
   split at hv <;> try (cases hv;done)
   rename_i wr sz e n' f ho;simp only [bm9,bmj] at hv;obtain ⟨rfl,rfl,rfl⟩:=hv;obtain rfl:n' = n:=hp;refine ⟨?_,fun hb=>by cases hb⟩;obtain ⟨_,_,h3⟩:=hu;have hown:=(h3 _ _ _ _ ho rfl).2 rfl;obtain ⟨h0,h1,h5⟩:=h.objs id _ ho
   rcases h5 with ⟨h6,xs,h2,h4⟩ | ⟨h6,h7,h8⟩
   · rcases h2.2 with ⟨hv,hz⟩ | ⟨g,cap,cur,hv,hbase,hheap,hcap,hmax,hcs,htake⟩
     · exact ⟨none,0,by rw [hown,hv,hz],by omega,by simp [maxLen],(fun hh=>by cases hh),fun hn=>by omega⟩
     refine ⟨_,cap,by rw [hown,hv],hcap,hmax,(fun hh=>by cases hh),fun hn=>⟨g,0,rfl,fun i j hi hj=>?_⟩⟩;obtain ⟨x,hx,hr⟩:=h4 i j hi hj;have:=h2.cells (g:=g) (by rw [hv];rfl) _ _ hx;rw [dc] at this;exact ⟨x,a9q hm (h.fsep id _ g ho (by rw [h6,hv];rfl)) this,b4.mono hm.le hr⟩
   obtain ⟨ad,cap,q1,q2,q3,q4,q5⟩:=b4.mono hm.le h8;rw [hown];exact ⟨ad,cap,q1,q2,q3,(fun hh=>by cases hh),q5⟩
 cases hv
def a21 (h:ai w0 nt c s a w) (hm:a0m w0 c w m):∀ {xs:List HV} {us:List Value} (_:bc c s.o xs us) {p:Prop} {ys:List PV} {b:Bool} (_:yn s.o xs = some (p,ys,b)) (_:p),
 fb m ys us /\ (b = false -> fb c.imm ys us)
 | [],[],_,p,ys,b,hv,_=>by
  simp only [yn,bm9,bmj] at hv;obtain ⟨_,rfl,_⟩:=hv;exact ⟨trivial,fun _=>trivial⟩
 | x :: xs,u :: us,hu,p,ys,b,hv,hp=>by
  simp only [yn] at hv;split at hv <;> try (cases hv;done)
  rename_i p1 y1 b1 p2 ys2 b2 h1 h2;simp only [bm9,bmj] at hv;obtain ⟨rfl,rfl,rfl⟩:=hv;obtain ⟨q1,q2⟩:=aab h hm hu.1 h1 hp.1;obtain ⟨q3,q4⟩:=a21 h hm hu.2 h2 hp.2
  exact ⟨⟨q1,q3⟩,fun hb=>by
   rw [bpe] at hb
   exact ⟨q2 hb.1,q4 hb.2⟩⟩
 | [],_ :: _,hu,_,_,_,_,_=>hu.elim
 | _ :: _,[],hu,_,_,_,_,_=>hu.elim
def ap7 (h:ai w0 nt c s a w) (hm:a0m w0 c w m) {x:HV} {u:Value} (hu:bn c s.o x u) {p:Prop} {y:PV} {b:Bool} (hv:a8b s.o x = some (p,y,b)) (hp:p):
 b4 m y u /\ (b = false -> b4 c.imm y u):=by
 unfold a8b at hv;split at hv
 · rename_i id off
   split at hv <;> try (cases hv;done)
   rename_i l hl;split at hv <;> try (cases hv;done)
   rename_i q ys bb hvl;simp only [bm9,bmj] at hv;obtain ⟨rfl,rfl,rfl⟩:=hv;refine ⟨?_,fun hb=>by cases hb⟩;obtain ⟨_,_,h3⟩:=hu;obtain ⟨bk,hb,rfl⟩:=h3 l hl;obtain ⟨b',C,e,h1,hblk,h2,h4,h5⟩:=h.objs id _ hl;rw [hb] at h1;simp only [Value.pointer.injEq,bm9,Addr.mk.injEq,and_true] at h1;subst h1;obtain ⟨q1,_⟩:=a21 h hm (h5.drop off) hvl hp;refine ⟨bk,off,rfl,fun j hj=>?_⟩;obtain ⟨v,hv,hr⟩:=q1.get j ys[j] (bma hj);refine ⟨v,a9q hm (h.fsep id _ bk hl (by rw [hblk];rfl)) ?_,by simpa [List.getD,bma hj] using hr⟩;rw [cell_of_row w bk (off + j) C e (0,0) h4];rw [boj] at hv;simpa using hv
 exact aab h hm hu hv hp
def aa8 (h:ai w0 nt c s a w) (hm:a0m w0 c w m) {x:HC} {u:Value} (hu:fy c s.o x u) {p:Prop} {y:PC} {b:Bool} (hv:a1j s.o x = some (p,y,b)) (hp:p):
 it m y u /\ (b = false -> it c.imm y u):=by
 unfold a1j at hv;split at hv
 · split at hv <;> try (cases hv;done)
   rename_i hvp;simp only [bm9,bmj] at hv;obtain ⟨rfl,rfl,rfl⟩:=hv;exact ap7 h hm hu hvp hp
 split at hv <;> try (cases hv;done)
 rename_i hvl;simp only [bm9,bmj] at hv;obtain ⟨rfl,rfl,rfl⟩:=hv;obtain ⟨us,rfl,hl⟩:=hu;obtain ⟨q1,q2⟩:=a21 h hm hl hvl hp;exact ⟨⟨us,rfl,q1⟩,fun hb=>⟨us,rfl,q2 hb⟩⟩
def a3n (h:ai w0 nt c s a w) (hm:a0m w0 c w m):∀ {xs:List Operand} {p:Prop} {ys:List PC} {b:Bool} (_:kf s.o (ev s) xs = some (p,ys,b)) (_:p),
 cn m ys (xs.map a.eval) /\ (b = false -> cn c.imm ys (xs.map a.eval))
 | [],p,ys,b,hv,_=>by
  simp only [kf,bm9,bmj] at hv;obtain ⟨_,rfl,_⟩:=hv;exact ⟨trivial,fun _=>trivial⟩
 | x :: xs,p,ys,b,hv,hp=>by
  simp only [kf] at hv;split at hv <;> try (cases hv;done)
  rename_i cc q ys2 b2 hx h2;split at hv <;> try (cases hv;done)
  rename_i p1 y1 b1 h1;simp only [bm9,bmj] at hv;obtain ⟨rfl,rfl,rfl⟩:=hv;obtain ⟨q1,q2⟩:=aa8 h hm (af h hx) h1 hp.1;obtain ⟨q3,q4⟩:=a3n h hm h2 hp.2
  exact ⟨⟨q1,q3⟩,fun hb=>by
   rw [bpe] at hb
   exact ⟨q2 hb.1,q4 hb.2⟩⟩
def uz {caps:Nat -> PV}:∀ (n i:Nat) (cs:List Value),cs.length = i + n -> (∀ j,j < i + n -> ∃ x,cs[j]? = some x /\ b4 m (caps j) x) -> cn m (ip caps n i) (cs.drop i)
 | 0,i,cs,hl,_=>by
  rw [bqa bqi];trivial
 | n + 1,i,cs,hl,h=>by
  rw [bpc bqi];obtain ⟨x,hx,hr⟩:=h i bqi;rw [bma bqi] at hx;simp only [bm9] at hx;subst hx;exact ⟨hr,uz n (i + 1) cs bqi fun j hj=>h j bqi⟩
def cn.append:∀ {xs ys:List PC} {us vs:List Value},cn m xs us -> cn m ys vs -> cn m (xs ++ ys) (us ++ vs)
 | [],_,[],_,_,h=>h
 | _ :: _,_,_ :: _,_,h,k=>⟨h.1,cn.append h.2 k⟩
 | [],_,_ :: _,_,h,_=>h.elim
 | _ :: _,_,[],_,h,_=>h.elim
end
end
def HC.ids:HC -> List Nat
 | .one h=>h.ids
 | .agg l=>m8 l
def a58:List HC -> List Nat
 | []=>[]
 | x :: r=>x.ids ++ a58 r
def HR.ids:HR -> List Nat
 | .v x=>x.ids
 | .tup l=>a58 l
def aa.ids:aa -> List Nat
 | .mp ..=>[]
 | .bld ..=>[]
 | .box l=>m8 l
 | .arr ..=>[]
 | .arrh _ _ _ ms _=>ms
 | .nest _ _ _ _ _ _ (some p)=>[p.1]
 | .nest _ _ _ _ _ _ none=>[]
theorem HC.men_ids {x:HC} {k:Nat} (h:x.men k):k ∈ x.ids:=by
 cases x with
 | one h'=>exact HV.men_ids h
 | agg l=>exact qg h
def ai1:∀ {l:List HC} {k:Nat},(∃ h ∈ l,h.men k) -> k ∈ a58 l
 | [],_,⟨_,h,_⟩=>by cases h
 | x :: r,k,⟨h,hm,hk⟩=>by
  rcases bmp.1 hm with rfl | hm
  · exact bmv _ (HC.men_ids hk)
  exact bn4 _ (ai1 ⟨h,hm,hk⟩)
theorem HR.men_ids {x:HR} {k:Nat} (h:x.men k):k ∈ x.ids:=by
 cases x with
 | v x=>exact HC.men_ids h
 | tup l=>exact ai1 h
def aa.men_ids {x:aa} {k:Nat} (h:x.men k):k ∈ x.ids:=by
 cases x with
 | mp kk n f=>exact h.elim
 | bld fr T e l=>exact h.elim
 | box l=>exact qg h
 | arr wr s e n f=>exact h.elim
 | arrh s e n ms f=>exact h
 | nest e et es n m g pd=>cases pd with | none=>exact h.elim | some p=>exact bmx.2 h
def dv (e:Ev):List Operand -> List Nat
 | []=>[]
 | x :: r=>(match e x with | some v=>v.ids | none=>[]) ++ dv e r
structure Ann where
 id:Nat
 wb:Bool
 ex:Bool
 res:PR
 W:List Nat
 N:List Nat
 M:List Nat
def az (ops:Array Oper) (s:S) (o:Oper):Option Bool :=
 match o.guard with
 | none=>some true
 | some (j,want) =>
  match (ops[j]?).bind (·.dst) with
  | some d=>match s.t d with | some (.v (.one (.p (.raw (.bool b)))))=>some (b == want) | some (.tup [])=>some false | _=>none
  | none=>none
def dn (nt:Nat):Option Tmp -> Bool
 | none=>true
 | some d=>decide (d < nt)
def pvN (f:Nat -> PV):Nat -> Nat -> List PV
 | 0,_=>[]
 | n + 1,i=>f i :: pvN f n (i + 1)
def ah7 {m:Imm} {f:Nat -> PV}:∀ (n i:Nat) (cs:List Value),cs.length = i + n -> (∀ j,j < i + n -> ∃ x,cs[j]? = some x /\ b4 m (f j) x) -> fb m (pvN f n i) (cs.drop i)
 | 0,i,cs,hl,_=>by
  rw [bqa bqi];trivial
 | n + 1,i,cs,hl,h=>by
  obtain ⟨x,hx,hr⟩:=h i bqi;have hlt:i < cs.length:=by omega
  rw [bpc hlt];rw [bma hlt] at hx;simp only [bm9] at hx;rw [hx];exact ⟨hr,ah7 n (i + 1) cs bqi fun j hj=>h j bqi⟩
def callee (e:Ev) (cl:Call):Option (FuncId × List PC × List PC) :=
 match cl.callee with
 | .value f =>
  match e f with
  | some (.v (.one (.p (.fn g k caps))))=>some (g,[],ip caps k 0)
  | some (.v (.one (.p (.bnd g m fr))))=>some (g,[.agg (pvN fr m 0)],[])
  | _=>none
 | _=>none
def aeh (caps:Nat -> HV):Nat -> Nat -> List HC
 | 0,_=>[]
 | n + 1,i=>.one (caps i) :: aeh caps n (i + 1)
def wh (e:Ev) (cl:Call):Option (FuncId × List HC) :=
 match cl.callee with
 | .value f =>
  match e f with
  | some (.v (.one (.p (.fn g k caps))))=>some (g,(ip caps k 0).map PC.toH)
  | some (.v (.one (.clo g k caps)))=>some (g,aeh caps k 0)
  | _=>none
 | _=>none
def goodFn (P : Program) (f : FuncId) : Prop := ∃ fn, P.funcs[f]? = some fn /\ (fn.name == "runtime.NumGoroutine") = false /\ fn.body.isNone = false
theorem S.setW_one (s:S) (id:Nat) (ob:aa):s.setW [(id,some ob)] = s.setO id (some ob):=by
 unfold S.setW S.setO;simp only [S.mk.injEq,true_and];funext k;by_cases hk:k = id
 · subst hk;simp [ir]
 have:Nat.beq id k = false:=by
  rw [bmm];exact fun hb=>hk (bn5 hb).symm
 simp [ir,this,hk]
theorem S.setW_none (s:S) (id:Nat):s.setW [(id,none)] = s.setO id none:=by
 unfold S.setW S.setO;simp only [S.mk.injEq,true_and];funext k;by_cases hk:k = id
 · subst hk;simp [ir]
 have:Nat.beq id k = false:=by
  rw [bmm];exact fun hb=>hk (bn5 hb).symm
 simp [ir,this,hk]
def sy (e:Ev):List Operand -> Option (List HC)
 | []=>some []
 | x :: r =>
  match e x,sy e r with
  | some (.v cc),some l=>some (cc :: l)
  | _,_=>none
def aap:List (Nat × aa) -> List Nat
 | []=>[]
 | (_,x) :: r=>x.ids ++ aap r
def aor (w:World) (o:Obj) {k:Nat} (h:k < w.heap.size):(w.drew.alloc o).heap[k]? = w.heap[k]?:=by
 show (w.heap.push o)[k]? = w.heap[k]?;rw [bqb h,bnb h]
def at4 (b:ByteArray):Nat -> Nat -> PV:=fun i _=>.raw (.int .u8 (ld b i))
def adj (E:Env) (e:Ev) (sr ds:TypeId) (x:Operand):Option ByteArray :=
 match E sr,E ds,e x with
 | some ti,some td,some (.v (.one (.p (.raw (.string b))))) =>
  match ti.k,td.k with
  | .string, .slice el =>
   match E el with
   | some ei=>match ei.k with | .int .u8=>some b | _=>none
   | none=>none
  | _,_=>none
 | _,_,_=>none
inductive Eff (P:Program) (E:Env) (nt:Nat) (ops:Array Oper) (o:Oper) (an:Ann) (s:S):Option HR -> Wr -> Prop where
 | cut (out:Out) (id:Nat) (hw:az ops s o = some true) (hd:dn nt o.dst = true) (hq':yh E s.o (ev s) o.op = some (out,id)) (hp:out.pre) (hW:an.W = [id]):Eff P E nt ops o an s (some out.val) [(id,none)]
 | skip (hw:az ops s o = some false) (hd:dn nt o.dst = true):Eff P E nt ops o an s (some (.tup [])) []
 | quiet (out:Out) (hw:az ops s o = some true) (hd:dn nt o.dst = true) (hq':hq E an.ex s.o (ev s) o.op = some out) (hp:out.pre) (hM:out.val.ids = an.M):Eff P E nt ops o an s (some out.val) []
 | make (nw:New) (hw:az ops s o = some true) (hd:dn nt o.dst = true) (hq':ha E (ev s) an.id o.op = some nw) (hp:nw.pre) (hm:NM s an.id) (hn:s.o an.id = none)
  (hW:an.W = [an.id]) (hN:an.N = [an.id]) (hM:nw.val.ids ++ nw.ob.ids = an.M):Eff P E nt ops o an s (some nw.val) [(an.id,some nw.ob)]
 | store (u:Upd) (hw:az ops s o = some true) (hd:dn nt o.dst = true) (hq':hs E s.o (ev s) o.op = some u) (hp:u.pre) (hW:an.W = [u.id]) (hM:∀ k ∈ u.ob.ids,k ∈ an.M):Eff P E nt ops o an s none [(u.id,some u.ob)]
 | app (u:App) (hw:az ops s o = some true) (hd:dn nt o.dst = true) (hq':hap E s.o (ev s) an.id an.wb o.op = some u) (hp:u.pre) (hn:u.new = true -> NM s an.id /\ s.o an.id = none)
  (hW:an.W = [u.id]) (hN:u.new = true -> an.N = [an.id]) (hM:u.val.ids ++ u.ob.ids = an.M):Eff P E nt ops o an s (some u.val) [(u.id,some u.ob)]
 | call (cl:Call) (f:FuncId) (fst caps args:List PC) (p:Prop) (vs:List PC) (b:Bool) (hw:az ops s o = some true) (hd:dn nt o.dst = true) (ho:o.op = .call cl) (hc:callee (ev s) cl = some (f,fst,caps)) (hf:goodFn P f)
  (hv:kf s.o (ev s) cl.args.toList = some (p,vs,b)) (hp:p) (hco:CoL (fst ++ (vs ++ caps)) args) (hpure:a6 P f args an.res) (hb:(!b || an.res.flat) = true) (hM:an.M = []):Eff P E nt ops o an s (some an.res.toH) []
 | conv (sr ds:TypeId) (x:Operand) (b:ByteArray) (hw:az ops s o = some true) (hd:dn nt o.dst = true) (ho:o.op = .convert sr ds x) (hcv:adj E (ev s) sr ds x = some b) (hp:b.size <= maxLen) (hM:an.M = []) :
  Eff P E nt ops o an s (some (.v (.one (.p (.sl b.size 1 false (at4 b)))))) []
 | fcall (cl:Call) (f:FuncId) (caps:List HC) (args hcs:List HC) (o1 o2:List (Nat × aa)) (res:HR) (fx:List Nat) (hw:az ops s o = some true) (hd:dn nt o.dst = true) (ho:o.op = .call cl) (hc:wh (ev s) cl = some (f,caps)) (hf:goodFn P f)
  (hv:sy (ev s) cl.args.toList = some hcs) (hco:ur (hcs ++ caps) args) (hfun:d4 P f args o1 res o2 fx) (hsub:∀ id ob,lk o1 id = some ob -> ∃ ob',s.o id = some ob' /\ CoO ob' ob)
  (hnew:∀ id ∈ d7 o2,id ∉ d7 o1 -> s.o id = none) (hnm:∀ id ∈ d7 o2,id ∉ fx \/ id ∉ d7 o1 -> NMx s (d7 o1 ++ d7 o2) id) (hcl:∀ id ob,lk o2 id = some ob -> ∀ k,ob.men k -> k ∈ d7 o2) (hclr:∀ k,res.men k -> k ∈ d7 o2)
  (hW:an.W = d7 o1 ++ d7 o2) (hN:∀ id ∈ d7 o2,id ∉ fx \/ id ∉ d7 o1 -> id ∈ an.N) (hM:an.M = res.ids ++ aap o2):Eff P E nt ops o an s (some res) (ya o1 o2)
def al8:∀ (l:List PV),m8 (l.map .p) = []
 | []=>rfl
 | _ :: r=>by simp [m8,HV.ids,al8 r]
def afg:∀ (l:List PC),a58 (l.map PC.toH) = []
 | []=>rfl
 | .one _ :: r=>by simp [a58,HC.ids,PC.toH,HV.ids,afg r]
 | .agg l :: r=>by simp [a58,HC.ids,PC.toH,al8 l,afg r]
theorem PR.ids_toH (x:PR):x.toH.ids = []:=by
 cases x with
 | v x=>cases x <;> simp [PR.toH,HR.ids,PC.toH,HC.ids,HV.ids,al8]
 | tup l=>simp [PR.toH,HR.ids,afg]
def S.after (s:S) (d:Option Tmp) (x:Option HR) (wr:Wr):S:=(s.setW wr).putD d x
def rf (ro:Option Nat):Fence:={ fn:=fun _=>True,depth:=none,alive:=false,round:=ro }
section
variable {P:Program} {ro:Option Nat}
def asr {n:Nat} {f:FuncId} {args:Array Value} {w:World} {R:Ending -> World -> Prop} (h:Calls P f args w R):CallsIn (rf ro) n P f args w R:=(callsIn_wide (n:=n)).2 h
def az4 {n:Nat} {row:String} {args:Array Value} {w:World} {R:Value -> World -> Prop} (h:Rows P row args w R):RowsIn (rf ro) n P row args w R:=fun c cs _=>by
 obtain ⟨v,w',r,s⟩:=h c cs;exact ⟨v,w',r,stepsIn_wide.2 s⟩
def aa3 {n:Nat} {o:Oper} {a:Act} {w:World} {K:Act -> World -> Prop} {Q:Exit -> Act -> World -> Prop} (hnd:∀ c,o.op ≠ .defer c) (h:o.wp P a w K Q):o.wpIn (rf ro) n P a w K Q:=by
 refine ⟨fun _ _=>trivial, ?_⟩;rw [Oper.semAt_eq _ _ _ hnd];unfold Oper.wp at h;generalize (execOp a.eval o).run P w = r at *
 cases r with
 | ok x w' =>
  cases x <;> simp only [Oper.upon,Oper.uponIn] at h ⊢ <;>
   first
    | exact h
    | exact ⟨(fun hh=>absurd hh (by simp [rf])),asr h⟩
    | exact ⟨(fun hh=>absurd hh (by simp [rf])),az4 h⟩
    | exact h.elim
 | halt x w'=>cases x <;> simp only [Oper.upon,Oper.uponIn] at h ⊢ <;> first | exact h | exact h.elim
def atf (P:Program) (ops:Array Oper) (Q:Exit -> Act -> World -> Prop) (i:Nat) (K:Act -> World -> Prop) (a:Act) (w:World):Prop :=
 match ops[i]? with
 | none=>K a w
 | some o=>if Region.wanted o (yielded ops a.tmps) then o.wp P a w K Q else K (a.put o.dst undef) w
theorem Eff.nd {E:Env} {nt:Nat} {ops:Array Oper} {o:Oper} {an:Ann} {s:S} {x:Option HR} {wr:Wr} (he:Eff P E nt ops o an s x wr):az ops s o = some false \/ ∀ c,o.op ≠ .defer c:=by
 cases he with
 | skip hw hd=>exact .inl hw
 | cut out id hw hd hq' hp hW=>exact .inr fun c hc=>by rw [hc] at hq';cases hq'
 | quiet out hw hd hq' hp hM=>exact .inr fun c hc=>by rw [hc] at hq';cases hq'
 | make nw hw hd hq' hp hm hn hW hN hM=>exact .inr fun c hc=>by rw [hc] at hq';cases hq'
 | store u hw hd hq' hp hW hM=>exact .inr fun c hc=>by rw [hc] at hq';cases hq'
 | app u hw hd hq' hp hn hW hN hM=>exact .inr fun c hc=>by rw [hc] at hq';cases hq'
 | call cl f fst caps args p vs b hw hd ho hc hf hv hp hco hpure hb hM=>exact .inr fun c hc=>by rw [hc] at ho;cases ho
 | conv sr ds x b hw hd ho hcv hp hM=>exact .inr fun c hc=>by rw [hc] at ho;cases ho
 | fcall cl f caps args hcs o1 o2 res fx hw hd ho hc hf hv hco hfun hsub hnew hnm hcl hclr hW hN hM=>exact .inr fun c hc=>by rw [hc] at ho;cases ho
end
section
variable {P:Program} {E:Env} {w0:World} {m0:Old} {nt:Nat} {s:S} {a:Act} {w:World} {ops:Array Oper} {o:Oper} {an:Ann}
def jm (h:dn nt o.dst = true):∀ k,o.dst = some k -> k < nt:=by
 intro k hk;rw [hk] at h;exact of_decide_eq_true h
def fc {c:Ctx} (h:ai w0 nt c s a w) {b:Bool} (hw:az ops s o = some b):Region.wanted o (yielded ops a.tmps) = b:=by
 unfold az at hw;unfold Region.wanted;split at hw
 · rename_i hg
   simp only [bm9] at hw;rw [hg,hw]
 rename_i j want hg;rw [hg];split at hw <;> try (cases hw;done)
 rename_i d hd;split at hw <;> try (cases hw;done)
 rotate_left
 · rename_i hb
   simp only [bm9] at hw;obtain ⟨us,e1,e2⟩:=h.tmps d _ hb
   have e3:us = []:=by cases us with | nil=>rfl | cons=>exact e2.elim
   subst e3;show (yielded ops a.tmps j == some want) = b
   have hy:yielded ops a.tmps j = none:=by
    unfold yielded;rw [hd];simp only [Option.bind_some]
    rcases bpo d a.tmps.size with h' | h'
    · have:a.tmps[d]? = some (.tuple #[]):=by
       rw [bnb h',<- e1];simp [h']
      simp [this]
    simp [bon h']
   rw [hy,<- hw];rfl
 rename_i bb hb;simp only [bm9] at hw;obtain ⟨e1,_⟩:=h.tmps d _ hb
 have hsz:d < a.tmps.size:=by
  rcases bpo d a.tmps.size with h' | h'
  · exact h'
  have:a.tmps.getD d undef = undef:=by simp [bon h']
  rw [this] at e1;cases e1
 have:a.tmps[d]? = some (.bool bb):=by
  rw [bnb hsz];rw [<- e1];simp [hsz]
 have hy:yielded ops a.tmps j = some bb:=by
  unfold yielded;rw [hd];simp [this]
 show (yielded ops a.tmps j == some want) = b;rw [hy,<- hw];cases bb <;> cases want <;> rfl
def c7.append {c:Ctx} {o:b7}:∀ {xs ys:List HC} {us vs:List Value},c7 c o xs us -> c7 c o ys vs -> c7 c o (xs ++ ys) (us ++ vs)
 | [],_,[],_,_,h=>h
 | _ :: _,_,_ :: _,_,h,k=>⟨h.1,c7.append h.2 k⟩
 | [],_,_ :: _,_,h,_=>h.elim
 | _ :: _,_,[],_,h,_=>h.elim
def a5n {c:Ctx} {o:b7} {caps:Nat -> HV}:∀ (n i:Nat) (cs:List Value),cs.length = i + n -> (∀ j,j < i + n -> ∃ x,cs[j]? = some x /\ bn c o (caps j) x) -> c7 c o (aeh caps n i) (cs.drop i)
 | 0,i,cs,hl,_=>by
  rw [bqa bqi];trivial
 | n + 1,i,cs,hl,h=>by
  rw [bpc bqi];obtain ⟨x,hx,hr⟩:=h i bqi;rw [bma bqi] at hx;simp only [bm9] at hx;subst hx;exact ⟨hr,a5n n (i + 1) cs bqi fun j hj=>h j bqi⟩
def a9z {c:Ctx} (h:ai w0 nt c s a w):∀ {l:List Operand} {hcs:List HC},sy (ev s) l = some hcs -> c7 c s.o hcs (l.map a.eval)
 | [],hcs,hv=>by
  simp only [sy,bm9] at hv;subst hv;trivial
 | x :: r,hcs,hv=>by
  simp only [sy] at hv;split at hv <;> try (cases hv;done)
  rename_i cc l e1 e2;simp only [bm9] at hv;subst hv;exact ⟨af h e1,a9z h e2⟩
section
variable {K:Act -> World -> Prop} {Q:Exit -> Act -> World -> Prop}
def aty (hE:cw P E) {x:Option HR} {wr:Wr} (he:Eff P E nt ops o an s x wr) (h:Rel w0 m0 nt s a w) {i:Nat} (hi:ops[i]? = some o) (hK:∀ a' w',Rel w0 m0 nt (s.after o.dst x wr) a' w' -> K a' w'):atf P ops Q i K a w:=by
 obtain ⟨c,hold,h⟩:=h;unfold atf;simp only [hi]
 cases he with
 | cut out id hw hd hq' hp hW =>
  rw [if_pos (fc h hw)];obtain ⟨v,c',h1,hold',h2,h3⟩:=ap2 hE h hq' hp;unfold Oper.wp;rw [h1];refine hK _ _ ⟨c',hold'.trans hold, ?_⟩
  have e:s.after o.dst (some out.val) [(id,none)] = (s.setO id none).putD o.dst (some out.val):=by
   unfold S.after;rw [S.setW_none]
  rw [e]
  exact h2.putD o.dst (jm hd) (some out.val) v (fun y hy=>by
   simp only [bm9] at hy;subst hy
   exact h3)
 | skip hw hd =>
  rw [if_neg (by rw [fc h hw];simp)];exact hK _ _ ⟨c,hold,h.putD o.dst (jm hd) (some (.tup [])) undef (fun y hy=>by cases hy;exact ⟨[],rfl,trivial⟩)⟩
 | quiet out hw hd hq' hp hM =>
  rw [if_pos (fc h hw)];obtain ⟨v,h1,h2⟩:=ajf hE h hq' hp;unfold Oper.wp;rw [h1]
  exact hK _ _ ⟨c,hold,h.putD o.dst (jm hd) (some out.val) v (fun y hy=>by
   simp only [bm9] at hy;subst hy
   exact h2)⟩
 | make nw hw hd hq' hp hm hn hW hN hM =>
  rw [if_pos (fc h hw)];obtain ⟨v,w',c',h1,ho',h2,h3⟩:=b23 hE h hq' hp hm hn;have hold':=ho'.trans hold;unfold Oper.wp;rw [h1]
  exact hK _ _ ⟨c',hold',(by unfold S.after;rw [S.setW_one];exact h2.putD o.dst (jm hd) (some nw.val) v (fun y hy=>by
   simp only [bm9] at hy;subst hy
   exact h3))⟩
 | store u hw hd hq' hp hW hM =>
  rw [if_pos (fc h hw)];obtain ⟨w',c',h1,ho',h2⟩:=b25 hE h hq' hp;have hold':=ho'.trans hold;unfold Oper.wp;rw [h1];exact hK _ _ ⟨c',hold',(by unfold S.after;rw [S.setW_one];exact h2.putD o.dst (jm hd) none undef (fun y hy=>by cases hy))⟩
 | app u hw hd hq' hp hn hW hN hM =>
  rw [if_pos (fc h hw)];obtain ⟨v,w',c',h1,⟨ho',h2⟩,h3⟩:=axa hE h hq' hp hn;have hold':=ho'.trans hold;unfold Oper.wp;rw [h1]
  exact hK _ _ ⟨c',hold',(by unfold S.after;rw [S.setW_one];exact h2.putD o.dst (jm hd) (some u.val) v (fun y hy=>by
   simp only [bm9] at hy;subst hy
   exact h3))⟩
 | conv sr ds x b hw hd ho hcv hp hM =>
  rw [if_pos (fc h hw)];unfold adj at hcv;split at hcv <;> try (cases hcv;done)
  rename_i ti td b' e1 e2 e3;split at hcv <;> try (cases hcv;done)
  rename_i el e4 e5;split at hcv <;> try (cases hcv;done)
  rename_i ei e6;split at hcv <;> try (cases hcv;done)
  rename_i e7;simp only [bm9] at hcv;subst hcv;obtain ⟨_,d1,_,p1,q1,_⟩:=b9 (hE sr ti e1);obtain ⟨_,d2,_,p2,q2,_⟩:=b9 (hE ds td e2);obtain ⟨_,d3,_,p3,q3,_⟩:=b9 (hE el ei e6);have r1:d1 = .string:=by rw [e4] at q1;cases d1 <;> simp [ku] at q1 ⊢
  have r2:d2 = .slice el:=f5 (q2.symm.trans e5)
  have r3:d3 = .int .u8:=by
   rw [e7] at q3;cases d3 <;> simp [ku] at q3 ⊢;exact q3.symm
  subst r1 r2 r3;have hev:a.eval x = .string b':=(af h e3).1;have hrun:=run_bytes_of_string (P:=P) w sr ds el b' p1 p2 p3
  have hex:(execOp a.eval o).run P w = .ok (.value (.slice (some ⟨w.heap.size,0,none⟩) b'.size (grownCap w b'.size 0 el)))
   (w.drew.alloc (.cells (bytesRow b' (grownCap w b'.size 0 el)) el ((bytesRow b' (grownCap w b'.size 0 el)).size,(bytesRow b' (grownCap w b'.size 0 el)).size + 1))):=by
   unfold execOp;simp only [ho,hev,bnl,hrun,bmw,bo6]
  unfold Oper.wp;rw [hex];generalize hob:Obj.cells (bytesRow b' (grownCap w b'.size 0 el)) el ((bytesRow b' (grownCap w b'.size 0 el)).size,(bytesRow b' (grownCap w b'.size 0 el)).size + 1) = ob
  have h':=h.later (w.drew.alloc ob) ⟨rfl,rfl,rfl,by simp,fun k hk=>aor w _ hk,bpd _⟩ (fun k=>if k = w.heap.size then some ob else c.imm k) (fun k hk=>if_neg bqi) (fun k ob' hk=>by
   by_cases hkk:k = w.heap.size
   · rw [if_pos hkk] at hk
     rw [hkk,<- Option.some.inj hk];exact heap_alloc_new w.drew _
   rw [if_neg hkk] at hk;have hw':=h.imm k ob' hk
   exact (aor w _ (bme.1 hw').1).trans hw')
  refine hK _ _ ⟨_,by exact hold,h'.putD o.dst (jm hd) (some (.v (.one (.p (.sl b'.size 1 false (at4 b')))))) _ (fun y hy=>?_)⟩;simp only [bm9] at hy;subst hy;refine ⟨some ⟨w.heap.size,0,none⟩,_,rfl,grownCap_ge w _ _ _,grownCap_le_maxLen w _ _ _ hp,(fun hf=>by cases hf),fun _=>⟨w.heap.size,0,rfl,fun i j hi hj=>?_⟩⟩;obtain rfl:j = 0:=by omega
  refine ⟨.int .u8 (ld b' i), ?_,rfl,rfl⟩;unfold jp;dsimp only;rw [if_pos rfl,<- hob];dsimp only;unfold bytesRow ld;have hsz:b'.data.size = b'.size:=rfl;rw [bpr bqt];have hlt:i < b'.data.size:=by omega
  simp;exact ⟨b'.data[i],by simp,by simp [bnb hlt]⟩
 | call cl f fst caps args p vs b hw hd ho hc hf hv hp hco hpure hb hM =>
  rw [if_pos (fc h hw)];obtain ⟨fn,hfn,hname,hbody⟩:=hf;obtain ⟨q1,q2⟩:=a3n h (b3g h) hv hp
  obtain ⟨fo,us,cs,hcal,e1,hfst,hcapr⟩:∃ (fo:Operand) (us cs:List Value),cl.callee = .value fo /\ a.eval fo = .func (.func f) us.toArray cs.toArray /\ (∀ m:Imm,Imm.le c.imm m -> cn m fst us) /\ ∀ m:Imm,Imm.le c.imm m -> cn m caps cs:=by
   unfold callee at hc;split at hc <;> try (cases hc;done)
   rename_i fo hcal;split at hc <;> try (cases hc;done)
   · rename_i g k capf hfo
     simp only [bm9,bmj] at hc;obtain ⟨rfl,rfl,rfl⟩:=hc;obtain ⟨cs,e1,hcl,hcr⟩:=af h hfo;refine ⟨fo,[],cs,hcal,e1,fun _ _=>trivial,fun m hm=>?_⟩
     have:=uz (m:=m) (caps:=capf) k 0 cs bqi (fun j hj=>by
      obtain ⟨x,hx,hr⟩:=hcr j bqi
      exact ⟨x,hx,b4.mono hm hr⟩)
     simpa using this
   rename_i g k fr hfo;simp only [bm9,bmj] at hc;obtain ⟨rfl,rfl,rfl⟩:=hc;obtain ⟨cs,e1,hcl,hcr⟩:=af h hfo;refine ⟨fo,[.agg cs.toArray],[],hcal,e1,fun m hm=>⟨⟨cs,rfl, ?_⟩,trivial⟩,fun _ _=>trivial⟩
   have:=ah7 (m:=m) (f:=fr) k 0 cs bqi (fun j hj=>by
    obtain ⟨x,hx,hr⟩:=hcr j bqi
    exact ⟨x,hx,b4.mono hm hr⟩)
   simpa using this
  have hrun:(execOp a.eval o).run P w = .ok (.enter f (us ++ ((cl.args.toList.map a.eval) ++ cs)).toArray) w:=by
   unfold execOp;simp only [ho,resolve,hcal,bnl,e1,Deferred.ofValue,bo6,bmw,invoke,callFunc,run_program,hfn,hname,hbody];simp
  unfold Oper.wp;rw [hrun];rw [Oper.upon_enter]
  cases hbb:b with
  | false =>
   have hargs:cn c.imm args (us ++ (cl.args.toList.map a.eval ++ cs)):=CoL.sound hco (cn.append (hfst _ (Imm.le.refl _)) (cn.append (q2 hbb) (hcapr _ (Imm.le.refl _))));refine (hpure w c.imm _ c.tab h.imm hargs).mono ?_;rintro e w' ⟨v,imm',rfl,hr,h1,h2,h3⟩;have h':=h.later w' h3 imm' h1 h2
   exact hK _ _ ⟨_,by exact hold,h'.putD o.dst (jm hd) (some an.res.toH) v (fun y hy=>by
    simp only [bm9] at hy;subst hy
    exact ap.of_P hr)⟩
  | true =>
   have hflat:an.res.flat = true:=by rw [hbb] at hb;simpa using hb
   have hargs:cn (gz w) args (us ++ (cl.args.toList.map a.eval ++ cs)):=CoL.sound hco (cn.append (hfst _ (yg h)) (cn.append q1 (hcapr _ (yg h))));refine (hpure w (gz w) _ (c.tab.mono (yg h)) (fun _ _ hh=>hh) hargs).mono ?_;rintro e w' ⟨v,imm',rfl,hr,h1,h2,h3⟩
   have h':=h.later w' h3 (fun b=>if b < w.heap.size then c.imm b else none) (fun b hb=>by simp [hb]) (fun b ob hbo=>by
    by_cases hlt:b < w.heap.size
    · simp only [hlt,if_true] at hbo
      rw [h3.block b hlt];exact h.imm b ob hbo
    simp [hlt] at hbo)
   exact hK _ _ ⟨_,by exact hold,h'.putD o.dst (jm hd) (some an.res.toH) v (fun y hy=>by
    simp only [bm9] at hy;subst hy
    exact ap.of_P (sq.flat hflat hr))⟩
 | fcall cl f caps args hcs o1 o2 res fx hw hd ho hc hf hv hco hfun hsub hnew hnm hcl hclr hW hN hM =>
  rw [if_pos (fc h hw)];unfold wh at hc;split at hc <;> try (cases hc;done)
  rename_i fo hcal;obtain ⟨fn,hfn,hname,hbody⟩:=hf
  obtain ⟨cs,e1,hcapr⟩:∃ cs:List Value,a.eval fo = .func (.func f) #[] cs.toArray /\ c7 c s.o caps cs:=by
   split at hc <;> try (cases hc;done)
   · rename_i g k capf hfo
     simp only [bm9,bmj] at hc;obtain ⟨rfl,rfl⟩:=hc;obtain ⟨cs,e1,hcl',hcr⟩:=af h hfo;refine ⟨cs,e1, ?_⟩
     have:=uz (m:=c.imm) (caps:=capf) k 0 cs bqi (fun j hj=>by
      obtain ⟨x,hx,hr⟩:=hcr j bqi
      exact ⟨x,hx,hr⟩)
     exact c7.of_P (by simpa using this)
   rename_i g k capf hfo;simp only [bm9,bmj] at hc;obtain ⟨rfl,rfl⟩:=hc;obtain ⟨cs,e1,hcl',hcr⟩:=af h hfo;refine ⟨cs,e1, ?_⟩;have:=a5n (c:=c) (o:=s.o) (caps:=capf) k 0 cs bqi (fun j hj=>hcr j bqi);simpa using this
  have hrun:(execOp a.eval o).run P w = .ok (.enter f ((cl.args.toList.map a.eval) ++ cs).toArray) w:=by
   unfold execOp;simp only [ho,resolve,hcal,bnl,e1,Deferred.ofValue,bo6,bmw,invoke,callFunc,run_program,hfn,hname,hbody];simp
  have hargs:c7 c s.o args (cl.args.toList.map a.eval ++ cs):=c7.co hco (c7.append (a9z h hv) hcapr);obtain ⟨hmem,hto⟩:=h.lend hsub;unfold Oper.wp;rw [hrun];rw [Oper.upon_enter];refine (hfun w c _ hmem (hto _ _ hargs)).mono ?_;rintro e w' ⟨v,c',rfl,hr,hm',hbel,hfr,hbk,hfx⟩;obtain ⟨c'',q1,_,q2,q3⟩:=h.fcall hsub (fun id h2 h1=>hnew id h2 h1) (fun id h2 h1=>hnm id h2 h1) hcl hm' hbel hfr hbk hfx
  exact hK _ _ ⟨c'',q1.trans hold,q2.putD o.dst (jm hd) (some res) v (fun y hy=>by
   simp only [bm9] at hy;subst hy
   exact q3 _ _ hr hclr)⟩
def a73 (hE:cw P E) {ro:Option Nat} {n:Nat} {x:Option HR} {wr:Wr} (he:Eff P E nt ops o an s x wr) (h:Rel w0 m0 nt s a w) {i:Nat} (hi:ops[i]? = some o) (hK:∀ a' w',Rel w0 m0 nt (s.after o.dst x wr) a' w' -> K a' w'):wpOpIn (rf ro) n P ops Q i K a w:=by
 have h1:=aty hE he h hi (Q:=Q) hK;unfold atf at h1;unfold wpOpIn;simp only [hi] at h1 ⊢;obtain ⟨c,hold,hr⟩:=h
 rcases he.nd with hn | hn
 · have hw:=fc hr hn
   rw [if_neg (by rw [hw];simp)] at h1 ⊢;exact ⟨fun _ _=>trivial,h1⟩
 split
 · rename_i hw
   rw [if_pos hw] at h1;exact aa3 hn h1
 rename_i hw;rw [if_neg hw] at h1;exact ⟨fun _ _=>trivial,h1⟩
end
end
end
section
open Go.RowKit
section
variable {E:Env} {ex:Bool} {o o':b7} {e e':Ev}
section
variable {x:Operand}
def fv {r:HR} (hx:e x = some r):∀ {l:List Operand},x ∈ l -> ∀ k ∈ r.ids,k ∈ dv e l
 | y :: l,hm,k,hk=>by
  rcases bmp.1 hm with rfl | hm
  · simp only [dv,hx];exact bmv _ hk
  simp only [dv];exact bn4 _ (fv hx hm k hk)
def sj:∀ {l:List Operand},(∀ x ∈ l,e' x = e x) -> dv e' l = dv e l
 | [],_=>rfl
 | x :: l,h=>by
  simp only [dv];rw [h x bqm,sj fun y hy=>h y (by simp [hy])]
def bqq {p:Prop} (h:p:=by simp [HV.ids]):p:=h
variable {h:HV}
def a1k (ho:∀ k ∈ h.ids,o' k = o k):tgt o' h = tgt o h:=by
 cases h with
 | p x=>cases x <;> rfl
 | ref id n=>rfl
 | ptr id off=>simp only [tgt];rw [ho id bqq]
 | eptr id n i j=>simp only [tgt];rw [ho id bqq]
 | win id n i m=>rfl
 | clo g k caps=>rfl
 | row id i k=>rfl
 | rptr id i k r j=>simp only [tgt];rw [ho id bqq]
 | pin id n ad cap=>rfl
def a28 {places:List (Nat × Nat)}:∀ {parts:List (Nat × Operand)} {cells:List HV},(∀ x ∈ parts.map (·.2),e' x = e x) -> j2 e' places cells parts = j2 e places cells parts
 | [],_,_=>rfl
 | (i,x) :: r,cells,h=>by
  have hx:=h x bqm;have ih:∀ cells,j2 e' places cells r = j2 e places cells r:=fun cells=>a28 fun y hy=>h y (by simp at hy ⊢;exact .inr hy);simp only [j2,hx,ih]
def aa1:∀ {l:List Operand},(∀ x ∈ l,e' x = e x) -> a12 e' l = a12 e l
 | [],_=>rfl
 | x :: l,h=>by
  simp only [a12];rw [h x bqm,aa1 fun y hy=>h y (by simp [hy])]
def aa6:∀ {l:List Operand},(∀ x ∈ l,e' x = e x) -> a1f e' l = a1f e l
 | [],_=>rfl
 | x :: l,h=>by
  simp only [a1f];rw [h x bqm,aa6 fun y hy=>h y (by simp [hy])]
def nj {x:Option Operand} (h:∀ y ∈ x.toList,e' y = e y):jg e' x = jg e x:=by
 cases x with
 | none=>rfl
 | some y=>simp only [jg];rw [h y bqm]
def ade {b:Builtin} {args:List Operand} {tys:List TypeId} (h:∀ x ∈ args,e' x = e x):tz E e' b args tys = tz E e b args tys:=by
 unfold tz;split
 · rename_i x t r
   rw [h x bqm]
 · rename_i x y
   rw [h x bqm,h y bqm]
 · rename_i x y
   rw [h x bqm,h y bqm]
 rfl
def au6 (ho:∀ k ∈ h.ids,o' k = o k):a7h o' h = a7h o h:=by
 cases h with
 | ref id n=>simp only [a7h];rw [ho id bqq]
 | win id n i m=>simp only [a7h];rw [ho id bqq]
 | row id i k=>simp only [a7h];rw [ho id bqq]
 | _=>rfl
variable {n:Nat}
def ass {i:Int} (ho:∀ k ∈ h.ids,o' k = o k):aag o' n i h = aag o n i h:=by
 cases h with
 | ref id n=>simp only [aag];rw [ho id bqq]
 | win id n i m=>simp only [aag];rw [ho id bqq]
 | row id i k=>simp only [aag];rw [ho id bqq]
 | p x=>cases x <;> rfl
 | _=>rfl
def anz {x y z:Option Int} (ho:∀ k ∈ h.ids,o' k = o k):a08 o' n x y z h = a08 o n x y z h:=by
 cases h with
 | ref id n=>simp only [a08];rw [ho id bqq]
 | win id n i m=>simp only [a08];rw [ho id bqq]
 | _=>rfl
def ahn {l:List Operand} {F:b7 -> HV -> Option Out} {α:Type} {d:α} {G:Option Out -> α} (hF:∀ h:HV,(∀ k ∈ h.ids,o' k = o k) -> F o' h = F o h) (hl:x ∈ l) (ho:∀ k ∈ dv e l,o' k = o k):
 (match e x with | some (.v (.one h))=>G (F o' h) | _=>d) = (match e x with | some (.v (.one h))=>G (F o h) | _=>d):=by
 cases hex:e x with
 | none=>rfl
 | some r =>
  cases r with
  | tup l=>rfl
  | v cc =>
   cases cc with
   | agg l=>rfl
   | one h =>
    dsimp only;rw [hF h fun k hk=>ho k (fv hex hl k hk)]
def afu {b:Builtin} {args:List Operand} {tys:List TypeId} (h:∀ x ∈ args,e' x = e x) (ho:∀ k ∈ dv e args,o' k = o k):w6 E o' e' b args tys = w6 E o e b args tys:=by
 unfold w6;split
 · rename_i x t r
   rw [h x bqm]
   cases E t with
   | none=>rfl
   | some ti =>
    dsimp only;cases ti.k <;> try rfl
    exact ahn (G:=id) (F:=a7h) (fun h hh=>au6 hh) bqm ho
 rfl
def apn (ho:∀ k ∈ dv e [x],o' k = o k):sn o' e x = sn o e x:=by
 unfold sn
 cases hex:e x with
 | none=>rfl
 | some r =>
  cases r with
  | tup l=>rfl
  | v cc =>
   cases cc with
   | agg l=>rfl
   | one h =>
    have:=a1k (o:=o) (o':=o') (h:=h) (fun k hk=>ho k (fv hex bqm k hk))
    cases h with
    | p x=>cases x <;> rfl
    | ref id n=>rfl
    | ptr id off=>dsimp only;rw [this]
    | eptr id n i j=>dsimp only;rw [this]
    | win id n i m=>rfl
    | clo g k caps=>rfl
    | row id i k=>rfl
    | rptr id i k r j=>dsimp only;rw [this]
    | pin id n ad cap=>rfl
variable {t:TypeId}
def akh (ho:∀ k ∈ dv e [x],o' k = o k):nb E o' e t x = nb E o e t x:=by
 unfold nb
 cases E t with
 | none=>rfl
 | some i =>
  dsimp only
  cases hex:e x with
  | none=>rfl
  | some r =>
   cases r with
   | tup l=>rfl
   | v cc =>
    cases cc with
    | agg l=>rfl
    | one h =>
     dsimp only;rw [a1k (o:=o) (o':=o') (h:=h) (fun k hk=>ho k (fv hex bqm k hk))]
def a9j {k:Nat} (ho:∀ k ∈ dv e [x],o' k = o k):gm E o' e t x k = gm E o e t x k:=by
 unfold gm
 cases E t with
 | none=>rfl
 | some i =>
  dsimp only;cases i.k <;> try rfl
  rename_i fs;dsimp only
  cases fs[k]? with
  | none=>rfl
  | some q =>
   obtain ⟨off,ft,bl⟩:=q;dsimp only
   cases E ft with
   | none=>rfl
   | some fi =>
    dsimp only
    cases hex:e x with
    | none=>rfl
    | some r =>
     cases r with
     | tup l=>rfl
     | v cc =>
      cases cc with
      | agg l=>rfl
      | one h =>
       dsimp only;rw [a1k (o:=o) (o':=o') (h:=h) (fun k hk=>ho k (fv hex bqm k hk))]
variable {el:TypeId} {i:Operand}
def abb {len:Nat} (ho:∀ k ∈ dv e [x],o' k = o k):o4 E o' e len el x i = o4 E o e len el x i:=by
 unfold o4
 cases E el with
 | none=>rfl
 | some ei =>
  dsimp only
  cases hex:e x with
  | none=>rfl
  | some r =>
   cases r with
   | tup l=>rfl
   | v cc =>
    cases cc with
    | agg l=>rfl
    | one h =>
     dsimp only;rw [a1k (o:=o) (o':=o') (h:=h) (fun k hk=>ho k (fv hex bqm k hk))]
def a9m (ho:∀ k ∈ dv e [x],o' k = o k):ic E o' e t x i = ic E o e t x i:=by
 unfold ic
 cases E t with
 | none=>rfl
 | some ii =>
  dsimp only;cases ii.k <;> try rfl
  case array len el=>exact abb ho
  rename_i el;dsimp only
  cases E el with
  | none=>rfl
  | some ei =>
   dsimp only
   cases hex:e x with
   | none=>rfl
   | some r =>
    cases r with
    | tup l=>rfl
    | v cc =>
     cases cc with
     | agg l=>rfl
     | one h =>
      dsimp only;have:=fun iv=>ass (o:=o) (o':=o') (h:=h) (n:=ei.size) (i:=iv) (fun k hk=>ho k (fv hex bqm k hk));simp only [this]
def apf {kk:KK} {m:MK} {z:Value} {cm:Bool} (ho:∀ k ∈ h.ids,o' k = o k):ae9 o' kk m z cm h = ae9 o kk m z cm h:=by
 cases h with
 | ref id n=>simp only [ae9];rw [ho id bqq]
 | _=>rfl
def agn {cm:Bool} (ho:∀ k ∈ dv e [x],o' k = o k):l7 E o' e t x i cm = l7 E o e t x i cm:=by
 unfold l7
 cases E t with
 | none=>rfl
 | some ii =>
  dsimp only;cases ii.k <;> try rfl
  rename_i kt et;dsimp only
  cases at2 E kt et with
  | none=>rfl
  | some q =>
   obtain ⟨kk,z⟩:=q;dsimp only
   cases hex:e x with
   | none=>rfl
   | some r =>
    cases r with
    | tup l=>rfl
    | v cc =>
     cases cc with
     | agg l=>rfl
     | one h =>
      dsimp only;have:=fun m=>apf (o:=o) (o':=o') (h:=h) (kk:=kk) (m:=m) (z:=z) (cm:=cm) (fun k hk=>ho k (fv hex bqm k hk));simp only [this]
def bqp {p:Prop} (h:p:=by simp [Op.operands]):p:=h
variable {op:Op}
def b08 (hx:∀ x ∈ op.operands,e' x = e x) (ho:∀ k ∈ dv e op.operands.toList,o' k = o k):hq E ex o' e' op = hq E ex o e op:=by
 cases op <;> try rfl
 case move x=>show Option.map _ (e' x) = Option.map _ (e x);rw [hx x bqp]
 case assign x=>show Option.map _ (e' x) = Option.map _ (e x);rw [hx x bqp]
 case pick c x y =>
  show a2o e' c x y = a2o e c x y;unfold a2o;rw [hx c bqp,hx x bqp,hx y bqp]
 case nilCheck x =>
  show sn o' e' x = sn o e x;have h1:sn o' e' x = sn o' e x:=by unfold sn;rw [hx x bqp]
  rw [h1];exact apn (by simpa [Op.operands] using ho)
 case load t x =>
  show nb E o' e' t x = nb E o e t x;have h1:nb E o' e' t x = nb E o' e t x:=by unfold nb;rw [hx x bqp]
  rw [h1];exact akh (by simpa [Op.operands] using ho)
 case fieldAddr t x k =>
  show gm E o' e' t x k = gm E o e t x k;have h1:gm E o' e' t x k = gm E o' e t x k:=by unfold gm;rw [hx x bqp]
  rw [h1];exact a9j (by simpa [Op.operands] using ho)
 case field t x k =>
  show zd E e' t x k = zd E e t x k;unfold zd;rw [hx x bqp]
 case indexAddr t x i =>
  show ic E o' e' t x i = ic E o e t x i;have h1:ic E o' e' t x i = ic E o' e t x i:=by unfold ic o4;rw [hx x bqp,hx i bqp]
  rw [h1];refine a9m fun k hk=>ho k ?_;simp only [dv,Op.operands,bn9] at hk ⊢;exact bmv _ hk
 case lookup t x i cm =>
  show l7 E o' e' t x i cm = l7 E o e t x i cm;have h1:l7 E o' e' t x i cm = l7 E o' e t x i cm:=by unfold l7;rw [hx x bqp,hx i bqp]
  rw [h1];refine agn fun k hk=>ho k ?_;simp only [dv,Op.operands,bn9] at hk ⊢;exact bmv _ hk
 case index t x i =>
  show ze E e' t x i = ze E e t x i;unfold ze;rw [hx x bqp,hx i bqp]
 case binOp op t x y ty =>
  have h1:a8l E ex e' op t x y = a8l E ex e op t x y:=by
   unfold a8l;rw [hx x bqp,hx y bqp]
  have h2:vu E e' op t x y = vu E e op t x y:=by
   unfold vu;rw [hx x bqp]
  simp only [hq];rw [h1,h2]
 case unOp op t x =>
  show ag6 ex e' op x = ag6 ex e op x;unfold ag6;rw [hx x bqp]
 case convert src dst x =>
  show a2m E ex e' src dst x = a2m E ex e src dst x;unfold a2m;rw [hx x bqp]
 case extract x i =>
  show u6 e' x i = u6 e x i;unfold u6;rw [hx x bqp]
 case slice t x lo hi mx =>
  have e0:=hx x bqp;have e1:=nj (e:=e) (e':=e') (x:=lo) (fun y hy=>hx y (by simp [Op.operands];simp at hy;simp [hy]));have e2:=nj (e:=e) (e':=e') (x:=hi) (fun y hy=>hx y (by simp [Op.operands];simp at hy;simp [hy]));have e3:=nj (e:=e) (e':=e') (x:=mx) (fun y hy=>hx y (by simp [Op.operands];simp at hy;simp [hy]))
  have h1:md E e' t x lo hi mx = md E e t x lo hi mx:=by
   unfold md;rw [e0,e1,e2,e3]
  have h2:a90 E o' e' t x lo hi mx = a90 E o e t x lo hi mx:=by
   unfold a90;rw [e0,e1,e2,e3]
   cases E t with
   | none=>rfl
   | some ti =>
    dsimp only;cases ti.k <;> try rfl
    rename_i el;dsimp only
    cases E el with
    | none=>rfl
    | some ei =>
     dsimp only
     cases jg e lo with
     | none=>rfl
     | some l =>
      cases jg e hi with
      | none=>rfl
      | some hh =>
       cases jg e mx with
       | none=>rfl
       | some m =>
        dsimp only;exact ahn (G:=id) (F:=fun o h=>a08 o ei.size l hh m h) (fun h hh=>anz hh) (l:=(Op.slice t x lo hi mx).operands.toList) bqp ho
  simp only [hq];rw [h1,h2]
 case makeFunc fn first caps =>
  show a3p e' fn first.toList caps.toList = a3p e fn first.toList caps.toList
  unfold a3p;rw [aa1 (l:=caps.toList) (fun y hy=>hx y (by simp [Op.operands];simp at hy;exact .inr hy)),aa6 (l:=caps.toList) (fun y hy=>hx y (by simp [Op.operands];simp at hy;exact .inr hy))];split
  · rfl
  · rename_i f x hf
    rw [hx x (by simp [Op.operands];left;rw [<- Array.mem_toList_iff,hf];simp)]
  rfl
 case build t parts =>
  show zg E e' t parts.toList = zg E e t parts.toList;have hf:∀ places cells,j2 e' places cells parts.toList = j2 e places cells parts.toList:=fun places cells=>a28 fun x hm=>hx x (by simpa [Op.operands] using hm);unfold zg;simp only [hf]
 case call c =>
  simp only [hq]
  cases hc:c.callee with
  | value f=>rfl
  | invoke r m=>rfl
  | builtin b =>
   simp only [Op.operands,Call.operands,hc] at hx ho;have h1:∀ x ∈ c.args.toList,e' x = e x:=fun x hm=>hx x (by simpa using hm);have h2:∀ k ∈ dv e c.args.toList,o' k = o k:=fun k hk=>ho k (by simpa using hk);dsimp only;rw [ade h1,afu h1 h2]
variable {id:Nat}
def b0y (hx:∀ x ∈ op.operands,e' x = e x):ha E e' id op = ha E e id op:=by
 cases op <;> simp only [ha] <;> simp only [Op.operands] at hx
 case box t x=>rw [hx x bqm]
 case buildSlice t n parts =>
  have hf:∀ sz cells,a8j e' sz n parts.toList cells = a8j e sz n parts.toList cells:=fun sz cells=>by
   unfold a8j;exact a28 fun x hm=>hx x (by simpa using hm)
  simp only [hf]
 case makeSlice t l c=>rw [hx l bqm,hx c bqm]
def ail {y:Operand} (ho:∀ k ∈ dv e [x,y],o' k = o k):mb E o' e t x y = mb E o e t x y:=by
 unfold mb
 cases E t with
 | none=>rfl
 | some i =>
  cases hv:e y with
  | none=>rfl
  | some rv =>
   cases rv with
   | tup l=>rfl
   | v cv =>
    cases hex:e x with
    | none=>rfl
    | some r =>
     cases r with
     | tup l=>rfl
     | v cc =>
      cases cc with
      | agg l=>rfl
      | one h =>
       cases h with
       | p x=>cases x <;> rfl
       | ref id n=>rfl
       | ptr id off=>dsimp only;rw [ho id (fv hex bqm id (by simp [HR.ids,HC.ids,HV.ids]))]
       | eptr id n r j=>dsimp only;rw [ho id (fv hex bqm id (by simp [HR.ids,HC.ids,HV.ids]))]
       | win id n i m=>rfl
       | clo g k caps=>rfl
       | row id i k=>rfl
       | rptr id i k r j=>dsimp only;rw [ho id (fv hex bqm id (by simp [HR.ids,HC.ids,HV.ids]))]
       | pin id n ad cap=>rfl
def akl {kk:KK} {m:MK} {y:PV} (ho:∀ k ∈ h.ids,o' k = o k):a6m o' kk m y h = a6m o kk m y h:=by
 cases h with
 | ref id n=>simp only [a6m];rw [ho id bqq]
 | _=>rfl
def aov {v:Operand} (ho:∀ k ∈ dv e [x],o' k = o k):uo E o' e t x i v = uo E o e t x i v:=by
 unfold uo
 cases E t with
 | none=>rfl
 | some ii =>
  dsimp only;cases ii.k <;> try rfl
  rename_i kt et;dsimp only
  cases E kt with
  | none=>rfl
  | some ki =>
   dsimp only
   cases hex:e x with
   | none=>rfl
   | some r =>
    cases r with
    | tup l=>rfl
    | v cc =>
     cases cc with
     | agg l=>rfl
     | one h =>
      dsimp only;have:=fun kk m y=>akl (o:=o) (o':=o') (h:=h) (kk:=kk) (m:=m) (y:=y) (fun k hk=>ho k (fv hex bqm k hk));simp only [this]
def amw (hx:∀ x ∈ op.operands,e' x = e x) (ho:∀ k ∈ dv e op.operands.toList,o' k = o k):hs E o' e' op = hs E o e op:=by
 cases op <;> try rfl
 case mapUpdate t x i v =>
  show uo E o' e' t x i v = uo E o e t x i v;have h1:uo E o' e' t x i v = uo E o' e t x i v:=by unfold uo;rw [hx x bqp,hx i bqp,hx v bqp]
  rw [h1];refine aov fun k hk=>ho k ?_;simp only [dv,Op.operands,bn9] at hk ⊢;exact bmv _ hk
 case store t addr v =>
  show mb E o' e' t addr v = mb E o e t addr v;have h1:mb E o' e' t addr v = mb E o' e t addr v:=by unfold mb;rw [hx addr bqp,hx v bqp]
  rw [h1];exact ail (by simpa [Op.operands] using ho)
def a9v (ho:∀ k ∈ h.ids,o' k = o k):yi o' id h = yi o id h:=by
 cases h with
 | p x =>
  cases x with
  | raw v =>
   cases v with
   | slice a n c=>cases n <;> rfl
   | _=>rfl
  | _=>rfl
 | ref id' n=>simp only [yi];rw [ho id' bqq]
 | _=>rfl
variable {wb:Bool}
def a1u {y:HV} (hid:o' id = o id) (ho:∀ k ∈ y.ids,o' k = o k):sw E o' id n wb el y = sw E o id n wb el y:=by
 simp only [sw];rw [hid,a9v ho]
def act (ho:∀ k ∈ h.ids,o' k = o k):a7q o' id h = a7q o id h:=by
 simp only [a7q];rw [a9v ho]
 cases h with
 | ref id' n=>simp only;rw [ho id' bqq]
 | _=>rfl
def ama {y:HV} (hid:o' id = o id) (ho:∀ k ∈ y.ids,o' k = o k):a06 E o' id n el y = a06 E o id n el y:=by
 simp only [a06];rw [hid,act ho]
def auc {y:HV} (hid:o' id = o id) (ho:∀ k ∈ y.ids,o' k = o k):abx E o' id n el y = abx E o id n el y:=by
 simp only [abx];rw [hid,act ho]
def apd {i k:Nat} {y:HV} (hid:o' id = o id):a43 E o' el id n i k y = a43 E o el id n i k y:=by
 unfold a43;rw [hid]
def atz {z:List Value} (ho:∀ k ∈ h.ids,o' k = o k):aew o' z n h = aew o z n h:=by
 cases h with
 | win id n i m=>simp only [aew];rw [ho id bqq]
 | _=>rfl
def apj {hy hx:HV} (h1:∀ k ∈ hx.ids,o' k = o k) (h2:∀ k ∈ hy.ids,o' k = o k):ym E o' id wb el hy hx = ym E o id wb el hy hx:=by
 cases hx with
 | win id1 n i k =>
  simp only [ym];exact apd (h1 id1 bqq)
 | pin id1 n ad cap =>
  simp only [ym];rw [a1u (o:=o) (o':=o') (h1 id1 bqq) h2]
 | ref id1 n =>
  simp only [ym];rw [a1u (o:=o) (o':=o') (h1 id1 bqq) h2,ama (o:=o) (o':=o') (h1 id1 bqq) h2,auc (o:=o) (o':=o') (h1 id1 bqq) h2]
 | p px =>
  cases px with
  | sl n sz cl f =>
   cases cl with
   | false=>rfl
   | true =>
    simp only [ym]
    cases E el with
    | none=>rfl
    | some ei =>
     dsimp only
     rw [a1u (o:=fun k=>if k = id then some (aa.arr false ei.size el n f) else o k) (o':=fun k=>if k = id then some (aa.arr false ei.size el n f) else o' k) bqm (fun k hk=>by
      try dsimp only
      split
      · rfl
      exact h2 k hk)]
  | _=>rfl
 | _=>rfl
def ape {x y:Option HR} (hx:∀ r,x = some r -> ∀ k ∈ r.ids,o' k = o k) (hy:∀ r,y = some r -> ∀ k ∈ r.ids,o' k = o k):
 a8y E o' id wb t x y = a8y E o id wb t x y:=by
 unfold a8y
 cases E t with
 | none=>rfl
 | some i =>
  dsimp only;cases i.k <;> try rfl
  rename_i el
  cases x with
  | none=>rfl
  | some rx =>
   cases rx with
   | tup l=>rfl
   | v cx =>
    cases cx with
    | agg l=>rfl
    | one hxv =>
     cases y with
     | none=>rfl
     | some ry =>
      cases ry with
      | tup l=>rfl
      | v cy =>
       cases cy with
       | agg l=>rfl
       | one hyv=>exact apj (hx _ rfl) (hy _ rfl)
def az1 (hx:∀ x ∈ op.operands,e' x = e x) (ho:∀ k ∈ dv e op.operands.toList,o' k = o k):hap E o' e' id wb op = hap E o e id wb op:=by
 cases op <;> try rfl
 case call c =>
  unfold hap;dsimp only;split
  · rename_i hc
    simp only [Op.operands,Call.operands,hc] at hx ho;have h1:∀ x ∈ c.args.toList,e' x = e x:=fun x hm=>hx x (by simpa using hm);have h2:∀ k ∈ dv e c.args.toList,o' k = o k:=fun k hk=>ho k (by simpa using hk);generalize c.args.toList = l at h1 h2;unfold a8a;split
    · rename_i x y t t' _
      split
      · rw [h1 x bqm,h1 y bqm]
        exact ape (fun r hr k hk=>h2 k (fv hr bqm k hk)) (fun r hr k hk=>h2 k (fv hr bqm k hk))
      rfl
    rfl
  · rename_i hc
    simp only [Op.operands,Call.operands,hc] at hx ho;have h1:∀ x ∈ c.args.toList,e' x = e x:=fun x hm=>hx x (by simpa using hm);have h2:∀ k ∈ dv e c.args.toList,o' k = o k:=fun k hk=>ho k (by simpa using hk);generalize c.args.toList = l at h1 h2;unfold a01;split
    · rename_i x t _
      rw [h1 x bqm]
      cases E t with
      | none=>rfl
      | some ti =>
       dsimp only;cases ti.k <;> try rfl
       rename_i el;dsimp only
       cases E el with
       | none=>rfl
       | some ei =>
        dsimp only
        cases ei.zero with
        | none=>rfl
        | some z =>
         dsimp only;split
         · cases hex:e x with
           | none=>rfl
           | some r =>
            cases r with
            | tup l=>rfl
            | v cc =>
             cases cc with
             | agg l=>rfl
             | one hv=>exact atz fun k hk=>h2 k (fv hex bqm k hk)
         rfl
    rfl
  rfl
def aa2 (ho:∀ k ∈ h.ids,o' k = o k):a4h o' h = a4h o h:=by
 cases h with
 | ref id n=>simp only [a4h];rw [ho id bqq]
 | _=>rfl
end
end
end
end Go.Hx

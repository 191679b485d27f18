/- A part of the proof: Hx10. -/
import Derived.Laws.IdiomStrings
import Derived.OrdersIn
import Derived.RangeFuncCalls
import Derived.RangeFuncNested
import Derived.Test.YtnlcekpflogjkaaGreatDoorTx08
set_option linter.all false
namespace Go.Hx
section
open Go.RowKit
def a6 (P:Program) (f:FuncId) (args:List PC) (res:PR):Prop :=
 ∀ (w:World) (imm:Imm) (us:List Value),vf imm -> (∀ b ob,imm b = some ob -> w.heap[b]? = some ob) -> ct imm args us ->
  Calls P f us.toArray w fun e w'=>∃ v imm',e = .returned v /\ sy imm' res v /\ (∀ b,b < w.heap.size -> imm' b = imm b) /\ (∀ b ob,imm' b = some ob -> w'.heap[b]? = some ob) /\ Below w.heap.size w w'
def a5m (o:ap):HV -> Option (Prop × PV × Bool)
 | .p x=>some (True,x,false)
 | .ref id n =>
  match o id with
  | some (.arr _ s _ n' f)=>some (n' = n, .sl n s false f,true)
  | _=>none
 | _=>none
def yc (o:ap):List HV -> Option (Prop × List PV × Bool)
 | []=>some (True,[],false)
 | x :: r =>
  match a5m o x,yc o r with
  | some (p,y,b),some (q,ys,b')=>some (p /\ q,y :: ys,b || b')
  | _,_=>none
def a8o (o:ap):HV -> Option (Prop × PV × Bool)
 | .ptr id off =>
  match o id with
  | some (.box l) =>
   match yc o (l.drop off) with
   | some (p,ys,_)=>some (p, .vp ys.length fun j=>ys.getD j .any,true)
   | none=>none
  | _=>none
 | h=>a5m o h
def a12 (o:ap):HC -> Option (Prop × PC × Bool)
 | .one h=>match a8o o h with | some (p,y,b)=>some (p, .one y,b) | none=>none
 | .agg l=>match yc o l with | some (p,ys,b)=>some (p, .agg ys,b) | none=>none
def lm (o:ap) (e:Ev):List Operand -> Option (Prop × List PC × Bool)
 | []=>some (True,[],false)
 | x :: r =>
  match e x,lm o e r with
  | some (.v cc),some (q,ys,b')=>match a12 o cc with | some (p,y,b)=>some (p /\ q,y :: ys,b || b') | none=>none
  | _,_=>none
def iu (caps:Nat -> PV):Nat -> Nat -> List PC
 | 0,_=>[]
 | n + 1,i=>.one (caps i) :: iu caps n (i + 1)
def PV.flat:PV -> Bool
 | .raw _=>true
 | .any=>true
 | _=>false
def akf:List PV -> Bool
 | []=>true
 | x :: r=>x.flat && akf r
def PC.flat:PC -> Bool
 | .one x=>x.flat
 | .agg l=>akf l
def aen:List PC -> Bool
 | []=>true
 | x :: r=>x.flat && aen r
def PR.flat:PR -> Bool
 | .v x=>x.flat
 | .tup l=>aen l
section
variable {m m':Imm}
def ak.flat {x:PV} {u:Value} (hf:x.flat = true) (h:ak m x u):ak m' x u:=by
 cases x <;> simp [PV.flat] at hf <;> exact h
def fh.flat:∀ {xs:List PV} {us:List Value},akf xs = true -> fh m xs us -> fh m' xs us
 | [],[],_,_=>trivial
 | _ :: _,_ :: _,hf,h=>by
  simp only [akf,brk] at hf;exact ⟨h.1.flat hf.1,fh.flat hf.2 h.2⟩
 | [],_ :: _,_,h=>h.elim
 | _ :: _,[],_,h=>h.elim
def lz.flat {x:PC} {u:Value} (hf:x.flat = true) (h:lz m x u):lz m' x u:=by
 cases x with
 | one x=>exact ak.flat hf h
 | agg l=>obtain ⟨us,e,hl⟩:=h;exact ⟨us,e,hl.flat hf⟩
def ct.flat:∀ {xs:List PC} {us:List Value},aen xs = true -> ct m xs us -> ct m' xs us
 | [],[],_,_=>trivial
 | _ :: _,_ :: _,hf,h=>by
  simp only [aen,brk] at hf;exact ⟨h.1.flat hf.1,ct.flat hf.2 h.2⟩
 | [],_ :: _,_,h=>h.elim
 | _ :: _,[],_,h=>h.elim
def sy.flat {x:PR} {u:Value} (hf:x.flat = true) (h:sy m x u):sy m' x u:=by
 cases x with
 | v x=>exact lz.flat hf h
 | tup l=>obtain ⟨us,e,hl⟩:=h;exact ⟨us,e,hl.flat hf⟩
def fq (w:World):Imm:=fun b=>w.heap[b]?
end
section
variable {P:Program} {E:Env} {w0:World} {nt:Nat} {c:Ctx} {s:S} {a:Act} {w:World}
structure a0n (w0:World) (c:Ctx) (w:World) (m:Imm):Prop where
 le:Imm.le c.imm m
 new:∀ b,c.frm b = none -> b < w.heap.size -> m b = w.heap[b]?
def yh (h:ag w0 nt c s a w):Imm.le c.imm (fq w):=fun b ob hb=>h.imm b ob hb
def b2v (h:ag w0 nt c s a w):a0n w0 c w (fq w):=⟨yh h,fun _ _ _=>rfl⟩
section
variable {m:Imm}
theorem aa5 (hm:a0n w0 c w m) {b off:Nat} {x:Value} (hb:c.frm b = none) (hc:w.cell? ⟨b,off,none⟩ = some x):jb m b off = some x:=by
 have hlt:=World.block_lt_of_cell? w _ hc;unfold World.cell? at hc;unfold jb;rw [hm.new b hb hlt]
 grind
def aa8 (h:ag w0 nt c s a w) (hm:a0n w0 c w m) {x:HV} {u:Value} (hu:bm c s.o x u) {p:Prop} {y:PV} {b:Bool} (hv:a5m s.o x = some (p,y,b)) (hp:p):
 ak m y u /\ (b = false -> ak c.imm y u):=by
 unfold a5m at hv;split at hv
 · simp only [bra,bri] at hv
   obtain ⟨_,rfl,rfl⟩:=hv;exact ⟨ak.mono hm.le hu,fun _=>hu⟩
 · rename_i id n
   split at hv <;> try (cases hv;done)
   rename_i wr sz e n' f ho;simp only [bra,bri] at hv;obtain ⟨rfl,rfl,rfl⟩:=hv;obtain rfl:n' = n:=hp;refine ⟨?_,fun hb=>by cases hb⟩;obtain ⟨_,_,h3⟩:=hu;have hown:=(h3 _ _ _ _ ho rfl).2 rfl;obtain ⟨h0,h1,h5⟩:=h.objs id _ ho
   rcases h5 with ⟨h6,xs,h2,h4⟩ | ⟨h6,h7,h8⟩
   · rcases h2.2 with ⟨hv,hz⟩ | ⟨g,cap,cur,hv,hbase,hheap,hcap,hmax,hcs,htake⟩
     · exact ⟨none,0,by rw [hown,hv,hz],by omega,by simp [maxLen],(fun hh=>by cases hh),fun hn=>by omega⟩
     refine ⟨_,cap,by rw [hown,hv],hcap,hmax,(fun hh=>by cases hh),fun hn=>⟨g,0,rfl,fun i j hi hj=>?_⟩⟩;obtain ⟨x,hx,hr⟩:=h4 i j hi hj;have:=h2.cells (g:=g) (by rw [hv];rfl) _ _ hx;rw [dh] at this;exact ⟨x,aa5 hm (h.fsep id _ g ho (by rw [h6,hv];rfl)) this,ak.mono hm.le hr⟩
   obtain ⟨ad,cap,q1,q2,q3,q4,q5⟩:=ak.mono hm.le h8;rw [hown];exact ⟨ad,cap,q1,q2,q3,(fun hh=>by cases hh),q5⟩
 cases hv
def a2i (h:ag w0 nt c s a w) (hm:a0n w0 c w m):∀ {xs:List HV} {us:List Value} (_:bc c s.o xs us) {p:Prop} {ys:List PV} {b:Bool} (_:yc s.o xs = some (p,ys,b)) (_:p),
 fh m ys us /\ (b = false -> fh c.imm ys us)
 | [],[],_,p,ys,b,hv,_=>by
  simp only [yc,bra,bri] at hv;obtain ⟨_,rfl,_⟩:=hv;exact ⟨trivial,fun _=>trivial⟩
 | x :: xs,u :: us,hu,p,ys,b,hv,hp=>by
  simp only [yc] at hv;split at hv <;> try (cases hv;done)
  rename_i p1 y1 b1 p2 ys2 b2 h1 h2;simp only [bra,bri] at hv;obtain ⟨rfl,rfl,rfl⟩:=hv;obtain ⟨q1,q2⟩:=aa8 h hm hu.1 h1 hp.1;obtain ⟨q3,q4⟩:=a2i h hm hu.2 h2 hp.2
  exact ⟨⟨q1,q3⟩,fun hb=>by
   rw [Bool.or_eq_false_iff] at hb
   exact ⟨q2 hb.1,q4 hb.2⟩⟩
 | [],_ :: _,hu,_,_,_,_,_=>hu.elim
 | _ :: _,[],hu,_,_,_,_,_=>hu.elim
theorem ar2 (h:ag w0 nt c s a w) (hm:a0n w0 c w m) {x:HV} {u:Value} (hu:bm c s.o x u) {p:Prop} {y:PV} {b:Bool} (hv:a8o s.o x = some (p,y,b)) (hp:p):
 ak m y u /\ (b = false -> ak c.imm y u):=by
 unfold a8o at hv;split at hv
 · rename_i id off
   split at hv <;> try (cases hv;done)
   rename_i l hl;split at hv <;> try (cases hv;done)
   rename_i q ys bb hvl;simp only [bra,bri] at hv;obtain ⟨rfl,rfl,rfl⟩:=hv;refine ⟨?_,fun hb=>by cases hb⟩;obtain ⟨_,_,h3⟩:=hu;obtain ⟨bk,hb,rfl⟩:=h3 l hl;obtain ⟨b',C,e,h1,hblk,h2,h4,h5⟩:=h.objs id _ hl;rw [hb] at h1;simp only [Value.pointer.injEq,bra,Addr.mk.injEq,and_true] at h1;subst h1;obtain ⟨q1,_⟩:=a2i h hm (h5.drop off) hvl hp;refine ⟨bk,off,rfl,fun j hj=>?_⟩;obtain ⟨v,hv,hr⟩:=q1.get j ys[j] (brb hj);refine ⟨v,aa5 hm (h.fsep id _ bk hl (by rw [hblk];rfl)) ?_,by simpa [List.getD,brb hj] using hr⟩;rw [cell_of_row w bk (off + j) C e (0,0) h4]
   grind
 exact aa8 h hm hu hv hp
def aaa (h:ag w0 nt c s a w) (hm:a0n w0 c w m) {x:HC} {u:Value} (hu:fv c s.o x u) {p:Prop} {y:PC} {b:Bool} (hv:a12 s.o x = some (p,y,b)) (hp:p):
 lz m y u /\ (b = false -> lz c.imm y u):=by
 unfold a12 at hv;split at hv
 · split at hv <;> try (cases hv;done)
   rename_i hvp;simp only [bra,bri] at hv;obtain ⟨rfl,rfl,rfl⟩:=hv;exact ar2 h hm hu hvp hp
 split at hv <;> try (cases hv;done)
 rename_i hvl;simp only [bra,bri] at hv;obtain ⟨rfl,rfl,rfl⟩:=hv;obtain ⟨us,rfl,hl⟩:=hu;obtain ⟨q1,q2⟩:=a2i h hm hl hvl hp;exact ⟨⟨us,rfl,q1⟩,fun hb=>⟨us,rfl,q2 hb⟩⟩
def a2q (h:ag w0 nt c s a w) (hm:a0n w0 c w m):∀ {xs:List Operand} {p:Prop} {ys:List PC} {b:Bool} (_:lm s.o (ev s) xs = some (p,ys,b)) (_:p),
 ct m ys (xs.map a.eval) /\ (b = false -> ct c.imm ys (xs.map a.eval))
 | [],p,ys,b,hv,_=>by
  simp only [lm,bra,bri] at hv;obtain ⟨_,rfl,_⟩:=hv;exact ⟨trivial,fun _=>trivial⟩
 | x :: xs,p,ys,b,hv,hp=>by
  simp only [lm] at hv;split at hv <;> try (cases hv;done)
  rename_i cc q ys2 b2 hx h2;split at hv <;> try (cases hv;done)
  rename_i p1 y1 b1 h1;simp only [bra,bri] at hv;obtain ⟨rfl,rfl,rfl⟩:=hv;obtain ⟨q1,q2⟩:=aaa h hm (ae h hx) h1 hp.1;obtain ⟨q3,q4⟩:=a2q h hm h2 hp.2
  exact ⟨⟨q1,q3⟩,fun hb=>by
   rw [Bool.or_eq_false_iff] at hb
   exact ⟨q2 hb.1,q4 hb.2⟩⟩
def a0j {caps:Nat -> PV}:∀ (n i:Nat) (cs:List Value),cs.length = i + n -> (∀ j,j < i + n -> ∃ x,cs[j]? = some x /\ ak m (caps j) x) -> ct m (iu caps n i) (cs.drop i)
 | 0,i,cs,hl,_=>by
  rw [bv2 bv9];trivial
 | n + 1,i,cs,hl,h=>by
  rw [bty bv9];obtain ⟨x,hx,hr⟩:=h i bv9;rw [brb bv9] at hx;simp only [bra] at hx;subst hx;exact ⟨hr,a0j n (i + 1) cs bv9 fun j hj=>h j bv9⟩
def ct.append:∀ {xs ys:List PC} {us vs:List Value},ct m xs us -> ct m ys vs -> ct m (xs ++ ys) (us ++ vs)
 | [],_,[],_,_,h=>h
 | _ :: _,_,_ :: _,_,h,k=>⟨h.1,ct.append h.2 k⟩
 | [],_,_ :: _,_,h,_=>h.elim
 | _ :: _,_,[],_,h,_=>h.elim
end
end
def HC.ids:HC -> List Nat
 | .one h=>h.ids
 | .agg l=>jk l
def a54:List HC -> List Nat
 | []=>[]
 | x :: r=>x.ids ++ a54 r
def HR.ids:HR -> List Nat
 | .v x=>x.ids
 | .tup l=>a54 l
def a7.ids:a7 -> List Nat
 | .mp ..=>[]
 | .bld ..=>[]
 | .ex ..=>[]
 | .bun _=>[]
 | .opq ..=>[]
 | .box l=>jk l
 | .arr ..=>[]
 | .arrh _ _ _ ms _=>ms
 | .nest _ _ _ _ _ _ (some p)=>[p.1]
 | .nest _ _ _ _ _ _ none=>[]
theorem HC.men_ids {x:HC} {k:Nat} (h:x.men k):k ∈ x.ids:=by
 cases x with
 | one h'=>exact HV.men_ids h
 | agg l=>exact om h
def aih:∀ {l:List HC} {k:Nat},(∃ h ∈ l,h.men k) -> k ∈ a54 l
 | [],_,⟨_,h,_⟩=>by cases h
 | x :: r,k,⟨h,hm,hk⟩=>by
  rcases brm.1 hm with rfl | hm
  · exact brz _ (HC.men_ids hk)
  exact bs3 _ (aih ⟨h,hm,hk⟩)
theorem HR.men_ids {x:HR} {k:Nat} (h:x.men k):k ∈ x.ids:=by
 cases x with
 | v x=>exact HC.men_ids h
 | tup l=>exact aih h
def a7.men_ids {x:a7} {k:Nat} (h:x.men k):k ∈ x.ids:=by
 cases x with
 | mp kk n f=>exact h.elim
 | bld fr T e l=>exact h.elim
 | ex d v b x=>exact h.elim
 | bun B=>exact h.elim
 | opq s e n R=>exact h.elim
 | box l=>exact om h
 | arr wr s e n f=>exact h.elim
 | arrh s e n ms f=>exact h
 | nest e et es n m g pd=>cases pd with | none=>exact h.elim | some p=>exact bru.2 h
def da (e:Ev):List Operand -> List Nat
 | []=>[]
 | x :: r=>(match e x with | some v=>v.ids | none=>[]) ++ da e r
structure Ann where
 id:Nat
 wb:Bool
 ex:Bool
 res:PR
 W:List Nat
 N:List Nat
 M:List Nat
def b7 (ops:Array Oper) (s:S) (o:Oper):Option Bool :=
 match o.guard with
 | none=>some true
 | some (j,want) =>
  match (ops[j]?).bind (·.dst) with
  | some d=>match s.t d with | some (.v (.one (.p (.raw (.bool b)))))=>some (b == want) | some (.tup [])=>some false | _=>none
  | none=>none
def cj (nt:Nat):Option Tmp -> Bool
 | none=>true
 | some d=>decide (d < nt)
def pvN (f:Nat -> PV):Nat -> Nat -> List PV
 | 0,_=>[]
 | n + 1,i=>f i :: pvN f n (i + 1)
def ajt {m:Imm} {f:Nat -> PV}:∀ (n i:Nat) (cs:List Value),cs.length = i + n -> (∀ j,j < i + n -> ∃ x,cs[j]? = some x /\ ak m (f j) x) -> fh m (pvN f n i) (cs.drop i)
 | 0,i,cs,hl,_=>by
  rw [bv2 bv9];trivial
 | n + 1,i,cs,hl,h=>by
  obtain ⟨x,hx,hr⟩:=h i bv9;have hlt:i < cs.length:=by omega
  rw [bty hlt];rw [brb hlt] at hx;simp only [bra] at hx;rw [hx];exact ⟨hr,ajt n (i + 1) cs bv9 fun j hj=>h j bv9⟩
def callee (e:Ev) (cl:Call):Option (FuncId × List PC × List PC) :=
 match cl.callee with
 | .value f =>
  match e f with
  | some (.v (.one (.p (.fn g k caps))))=>some (g,[],iu caps k 0)
  | some (.v (.one (.p (.bnd g m fr))))=>some (g,[.agg (pvN fr m 0)],[])
  | _=>none
 | _=>none
def ahd (caps:Nat -> HV):Nat -> Nat -> List HC
 | 0,_=>[]
 | n + 1,i=>.one (caps i) :: ahd caps n (i + 1)
def w9 (e:Ev) (cl:Call):Option (FuncId × List HC) :=
 match cl.callee with
 | .value f =>
  match e f with
  | some (.v (.one (.p (.fn g k caps))))=>some (g,(iu caps k 0).map PC.toH)
  | some (.v (.one (.clo g k caps)))=>some (g,ahd caps k 0)
  | _=>none
 | _=>none
def goodFn (P : Program) (f : FuncId) : Prop := ∃ fn, P.funcs[f]? = some fn /\ (fn.name == "runtime.NumGoroutine") = false /\ fn.body.isNone = false
theorem S.setW_one (s:S) (id:Nat) (ob:a7):s.setW [(id,some ob)] = s.setO id (some ob):=by
 unfold S.setW S.setO;simp only [S.mk.injEq,true_and];funext k;by_cases hk:k = id
 · subst hk;simp [j7]
 have:Nat.beq id k = false:=by
  rw [brt];exact fun hb=>hk (bs9 hb).symm
 simp [j7,this,hk]
theorem S.setW_none (s:S) (id:Nat):s.setW [(id,none)] = s.setO id none:=by
 unfold S.setW S.setO;simp only [S.mk.injEq,true_and];funext k;by_cases hk:k = id
 · subst hk;simp [j7]
 have:Nat.beq id k = false:=by
  rw [brt];exact fun hb=>hk (bs9 hb).symm
 simp [j7,this,hk]
def sx (e:Ev):List Operand -> Option (List HC)
 | []=>some []
 | x :: r =>
  match e x,sx e r with
  | some (.v cc),some l=>some (cc :: l)
  | _,_=>none
def ac7:List (Nat × a7) -> List Nat
 | []=>[]
 | (_,x) :: r=>x.ids ++ ac7 r
theorem ap6 (w:World) (o:Obj) {k:Nat} (h:k < w.heap.size):(w.drew.alloc o).heap[k]? = w.heap[k]?:=by
 show (w.heap.push o)[k]? = w.heap[k]?
 grind
def ax2 (b:ByteArray):Nat -> Nat -> PV:=fun i _=>.raw (.int .u8 (c9 b i))
def aei (E:Env) (e:Ev) (sr ds:TypeId) (x:Operand):Option ByteArray :=
 match E sr,E ds,e x with
 | some ti,some td,some (.v (.one (.p (.raw (.string b))))) =>
  match ti.k,td.k with
  | .string, .slice el =>
   match E el with
   | some ei=>match ei.k with | .int .u8=>some b | _=>none
   | none=>none
  | _,_=>none
 | _,_,_=>none
inductive Eff (P:Program) (E:Env) (nt:Nat) (ops:Array Oper) (o:Oper) (an:Ann) (s:S):Option HR -> Wr -> Prop where
 | cut (out:Out) (id:Nat) (hw:b7 ops s o = some true) (hd:cj nt o.dst = true) (hq':ye E s.o (ev s) o.op = some (out,id)) (hp:out.pre) (hW:an.W = [id]):Eff P E nt ops o an s (some out.val) [(id,none)]
 | skip (hw:b7 ops s o = some false) (hd:cj nt o.dst = true):Eff P E nt ops o an s (some (.tup [])) []
 | quiet (out:Out) (hw:b7 ops s o = some true) (hd:cj nt o.dst = true) (hq':hq E an.ex s.o (ev s) o.op = some out) (hp:out.pre) (hM:out.val.ids = an.M):Eff P E nt ops o an s (some out.val) []
 | make (nw:New) (hw:b7 ops s o = some true) (hd:cj nt o.dst = true) (hq':ha E (ev s) an.id o.op = some nw) (hp:nw.pre) (hm:NM s an.id) (hn:s.o an.id = none)
  (hW:an.W = [an.id]) (hN:an.N = [an.id]) (hM:nw.val.ids ++ nw.ob.ids = an.M):Eff P E nt ops o an s (some nw.val) [(an.id,some nw.ob)]
 | store (u:Upd) (hw:b7 ops s o = some true) (hd:cj nt o.dst = true) (hq':hs E s.o (ev s) o.op = some u) (hp:u.pre) (hW:an.W = [u.id]) (hM:∀ k ∈ u.ob.ids,k ∈ an.M):Eff P E nt ops o an s none [(u.id,some u.ob)]
 | app (u:App) (hw:b7 ops s o = some true) (hd:cj nt o.dst = true) (hq':hap E s.o (ev s) an.id an.wb o.op = some u) (hp:u.pre) (hn:u.new = true -> NM s an.id /\ s.o an.id = none)
  (hW:an.W = [u.id]) (hN:u.new = true -> an.N = [an.id]) (hM:u.val.ids ++ u.ob.ids = an.M):Eff P E nt ops o an s (some u.val) [(u.id,some u.ob)]
 | call (cl:Call) (f:FuncId) (fst caps args:List PC) (p:Prop) (vs:List PC) (b:Bool) (hw:b7 ops s o = some true) (hd:cj nt o.dst = true) (ho:o.op = .call cl) (hc:callee (ev s) cl = some (f,fst,caps)) (hf:goodFn P f)
  (hv:lm s.o (ev s) cl.args.toList = some (p,vs,b)) (hp:p) (hco:CoL (fst ++ (vs ++ caps)) args) (hpure:a6 P f args an.res) (hb:(!b || an.res.flat) = true) (hM:an.M = []):Eff P E nt ops o an s (some an.res.toH) []
 | conv (sr ds:TypeId) (x:Operand) (b:ByteArray) (hw:b7 ops s o = some true) (hd:cj nt o.dst = true) (ho:o.op = .convert sr ds x) (hcv:aei E (ev s) sr ds x = some b) (hp:b.size <= maxLen) (hM:an.M = []) :
  Eff P E nt ops o an s (some (.v (.one (.p (.sl b.size 1 false (ax2 b)))))) []
 | fcall (cl:Call) (f:FuncId) (caps:List HC) (args hcs:List HC) (o1 o2:List (Nat × a7)) (res:HR) (fx:List Nat) (hw:b7 ops s o = some true) (hd:cj nt o.dst = true) (ho:o.op = .call cl) (hc:w9 (ev s) cl = some (f,caps)) (hf:goodFn P f)
  (hv:sx (ev s) cl.args.toList = some hcs) (hco:uz (hcs ++ caps) args) (hfun:cz P f args o1 res o2 fx) (hsub:∀ id ob,lk o1 id = some ob -> ∃ ob',s.o id = some ob' /\ CoO ob' ob)
  (hnew:∀ id ∈ keys o2,id ∉ keys o1 -> s.o id = none) (hnm:∀ id ∈ keys o2,id ∉ fx \/ id ∉ keys o1 -> NMx s (keys o1 ++ keys o2) id) (hcl:∀ id ob,lk o2 id = some ob -> ∀ k,ob.men k -> k ∈ keys o2) (hclr:∀ k,res.men k -> k ∈ keys o2)
  (hW:an.W = keys o1 ++ keys o2) (hN:∀ id ∈ keys o2,id ∉ fx \/ id ∉ keys o1 -> id ∈ an.N) (hM:an.M = res.ids ++ ac7 o2):Eff P E nt ops o an s (some res) (a0d o1 o2)
def apc:∀ (l:List PV),jk (l.map .p) = []
 | []=>rfl
 | _ :: r=>by simp [jk,HV.ids,apc r]
def afe:∀ (l:List PC),a54 (l.map PC.toH) = []
 | []=>rfl
 | .one _ :: r=>by simp [a54,HC.ids,PC.toH,HV.ids,afe r]
 | .agg l :: r=>by simp [a54,HC.ids,PC.toH,apc l,afe r]
theorem PR.ids_toH (x:PR):x.toH.ids = []:=by
 cases x with
 | v x=>cases x <;> simp [PR.toH,HR.ids,PC.toH,HC.ids,HV.ids,apc]
 | tup l=>simp [PR.toH,HR.ids,afe]
def S.after (s:S) (d:Option Tmp) (x:Option HR) (wr:Wr):S:=(s.setW wr).putD d x
def rf (ro:Option Nat):Fence:={ fn:=fun _=>True,depth:=none,alive:=false,round:=ro }
section
variable {P:Program} {ro:Option Nat}
def avu {n:Nat} {f:FuncId} {args:Array Value} {w:World} {R:Ending -> World -> Prop} (h:Calls P f args w R):CallsIn (rf ro) n P f args w R:=(callsIn_wide (n:=n)).2 h
def axt {n:Nat} {row:String} {args:Array Value} {w:World} {R:Value -> World -> Prop} (h:Rows P row args w R):RowsIn (rf ro) n P row args w R:=fun c cs _=>by
 obtain ⟨v,w',r,s⟩:=h c cs;exact ⟨v,w',r,stepsIn_wide.2 s⟩
def a2b {n:Nat} {o:Oper} {a:Act} {w:World} {K:Act -> World -> Prop} {Q:Exit -> Act -> World -> Prop} (hnd:∀ c,o.op ≠ .defer c) (h:o.wp P a w K Q):o.wpIn (rf ro) n P a w K Q:=by
 refine ⟨fun _ _=>trivial, ?_⟩;rw [Oper.semAt_eq _ _ _ hnd];unfold Oper.wp at h;generalize (execOp a.eval o).run P w = r at *
 cases r with
 | ok x w' =>
  cases x <;> simp only [Oper.upon,Oper.uponIn] at h ⊢ <;>
   first
    | exact h
    | exact ⟨(fun hh=>absurd hh (by simp [rf])),avu h⟩
    | exact ⟨(fun hh=>absurd hh (by simp [rf])),axt h⟩
    | exact h.elim
 | halt x w'=>cases x <;> simp only [Oper.upon,Oper.uponIn] at h ⊢ <;> first | exact h | exact h.elim
def aw4 (P:Program) (ops:Array Oper) (Q:Exit -> Act -> World -> Prop) (i:Nat) (K:Act -> World -> Prop) (a:Act) (w:World):Prop :=
 match ops[i]? with
 | none=>K a w
 | some o=>if Region.wanted o (yielded ops a.tmps) then o.wp P a w K Q else K (a.put o.dst undef) w
theorem Eff.nd {E:Env} {nt:Nat} {ops:Array Oper} {o:Oper} {an:Ann} {s:S} {x:Option HR} {wr:Wr} (he:Eff P E nt ops o an s x wr):b7 ops s o = some false \/ ∀ c,o.op ≠ .defer c:=by
 cases he with
 | skip hw hd=>exact .inl hw
 | cut out id hw hd hq' hp hW=>exact .inr fun c hc=>by rw [hc] at hq';cases hq'
 | quiet out hw hd hq' hp hM=>exact .inr fun c hc=>by rw [hc] at hq';cases hq'
 | make nw hw hd hq' hp hm hn hW hN hM=>exact .inr fun c hc=>by rw [hc] at hq';cases hq'
 | store u hw hd hq' hp hW hM=>exact .inr fun c hc=>by rw [hc] at hq';cases hq'
 | app u hw hd hq' hp hn hW hN hM=>exact .inr fun c hc=>by rw [hc] at hq';cases hq'
 | call cl f fst caps args p vs b hw hd ho hc hf hv hp hco hpure hb hM=>exact .inr fun c hc=>by rw [hc] at ho;cases ho
 | conv sr ds x b hw hd ho hcv hp hM=>exact .inr fun c hc=>by rw [hc] at ho;cases ho
 | fcall cl f caps args hcs o1 o2 res fx hw hd ho hc hf hv hco hfun hsub hnew hnm hcl hclr hW hN hM=>exact .inr fun c hc=>by rw [hc] at ho;cases ho
end
section
variable {P:Program} {E:Env} {w0:World} {m0:Old} {nt:Nat} {s:S} {a:Act} {w:World} {ops:Array Oper} {o:Oper} {an:Ann}
def jn (h:cj nt o.dst = true):∀ k,o.dst = some k -> k < nt:=by
 intro k hk;rw [hk] at h;exact of_decide_eq_true h
theorem fg {c:Ctx} (h:ag w0 nt c s a w) {b:Bool} (hw:b7 ops s o = some b):Region.wanted o (yielded ops a.tmps) = b:=by
 unfold b7 at hw;unfold Region.wanted;split at hw
 · grind
 rename_i j want hg;rw [hg];split at hw <;> try (cases hw;done)
 rename_i d hd;split at hw <;> try (cases hw;done)
 rotate_left
 · rename_i hb
   simp only [bra] at hw;obtain ⟨us,e1,e2⟩:=h.tmps d _ hb
   have e3:us = []:=by cases us with | nil=>rfl | cons=>exact e2.elim
   subst e3;show (yielded ops a.tmps j == some want) = b
   have hy:yielded ops a.tmps j = none:=by
    unfold yielded;rw [hd];simp only [Option.bind_some]
    rcases buw d a.tmps.size with h' | h'
    · simp_all
    grind
   grind
 rename_i bb hb;simp only [bra] at hw;obtain ⟨e1,_⟩:=h.tmps d _ hb
 have hsz:d < a.tmps.size:=by
  rcases buw d a.tmps.size with h' | h'
  · exact h'
  have:a.tmps.getD d undef = undef:=by simp [btw h']
  rw [this] at e1;cases e1
 have:a.tmps[d]? = some (.bool bb):=by
  simp_all
 have hy:yielded ops a.tmps j = some bb:=by
  unfold yielded
  grind
 simp_all
def bu.append {c:Ctx} {o:ap}:∀ {xs ys:List HC} {us vs:List Value},bu c o xs us -> bu c o ys vs -> bu c o (xs ++ ys) (us ++ vs)
 | [],_,[],_,_,h=>h
 | _ :: _,_,_ :: _,_,h,k=>⟨h.1,bu.append h.2 k⟩
 | [],_,_ :: _,_,h,_=>h.elim
 | _ :: _,_,[],_,h,_=>h.elim
def a5s {c:Ctx} {o:ap} {caps:Nat -> HV}:∀ (n i:Nat) (cs:List Value),cs.length = i + n -> (∀ j,j < i + n -> ∃ x,cs[j]? = some x /\ bm c o (caps j) x) -> bu c o (ahd caps n i) (cs.drop i)
 | 0,i,cs,hl,_=>by
  rw [bv2 bv9];trivial
 | n + 1,i,cs,hl,h=>by
  rw [bty bv9];obtain ⟨x,hx,hr⟩:=h i bv9;rw [brb bv9] at hx;simp only [bra] at hx;subst hx;exact ⟨hr,a5s n (i + 1) cs bv9 fun j hj=>h j bv9⟩
def aag {c:Ctx} (h:ag w0 nt c s a w):∀ {l:List Operand} {hcs:List HC},sx (ev s) l = some hcs -> bu c s.o hcs (l.map a.eval)
 | [],hcs,hv=>by
  simp only [sx,bra] at hv;subst hv;trivial
 | x :: r,hcs,hv=>by
  simp only [sx] at hv;split at hv <;> try (cases hv;done)
  rename_i cc l e1 e2;simp only [bra] at hv;subst hv;exact ⟨ae h e1,aag h e2⟩
section
variable {K:Act -> World -> Prop} {Q:Exit -> Act -> World -> Prop}
theorem avm (hE:cr P E) {x:Option HR} {wr:Wr} (he:Eff P E nt ops o an s x wr) (h:Rel w0 m0 nt s a w) {i:Nat} (hi:ops[i]? = some o) (hK:∀ a' w',Rel w0 m0 nt (s.after o.dst x wr) a' w' -> K a' w'):aw4 P ops Q i K a w:=by
 obtain ⟨c,hold,h⟩:=h;unfold aw4;simp only [hi]
 cases he with
 | cut out id hw hd hq' hp hW =>
  rw [if_pos (fg h hw)];obtain ⟨v,c',h1,hold',h2,h3⟩:=aru hE h hq' hp;unfold Oper.wp;rw [h1];refine hK _ _ ⟨c',hold'.trans hold, ?_⟩
  have e:s.after o.dst (some out.val) [(id,none)] = (s.setO id none).putD o.dst (some out.val):=by
   unfold S.after;rw [S.setW_none]
  rw [e]
  exact h2.putD o.dst (jn hd) (some out.val) v (fun y hy=>by
   simp only [bra] at hy;subst hy
   exact h3)
 | skip hw hd =>
  rw [if_neg (by rw [fg h hw];simp)];exact hK _ _ ⟨c,hold,h.putD o.dst (jn hd) (some (.tup [])) undef (fun y hy=>by cases hy;exact ⟨[],rfl,trivial⟩)⟩
 | quiet out hw hd hq' hp hM =>
  rw [if_pos (fg h hw)];obtain ⟨v,h1,h2⟩:=b5q hE h hq' hp;unfold Oper.wp;rw [h1]
  exact hK _ _ ⟨c,hold,h.putD o.dst (jn hd) (some out.val) v (fun y hy=>by
   simp only [bra] at hy;subst hy
   exact h2)⟩
 | make nw hw hd hq' hp hm hn hW hN hM =>
  rw [if_pos (fg h hw)];obtain ⟨v,w',c',h1,ho',h2,h3⟩:=b5j hE h hq' hp hm hn;have hold':=ho'.trans hold;unfold Oper.wp;rw [h1]
  exact hK _ _ ⟨c',hold',(by unfold S.after;rw [S.setW_one];exact h2.putD o.dst (jn hd) (some nw.val) v (fun y hy=>by
   simp only [bra] at hy;subst hy
   exact h3))⟩
 | store u hw hd hq' hp hW hM =>
  rw [if_pos (fg h hw)];obtain ⟨w',c',h1,ho',h2⟩:=b43 hE h hq' hp;have hold':=ho'.trans hold;unfold Oper.wp;rw [h1];exact hK _ _ ⟨c',hold',(by unfold S.after;rw [S.setW_one];exact h2.putD o.dst (jn hd) none undef (fun y hy=>by cases hy))⟩
 | app u hw hd hq' hp hn hW hN hM =>
  rw [if_pos (fg h hw)];obtain ⟨v,w',c',h1,⟨ho',h2⟩,h3⟩:=b1e hE h hq' hp hn;have hold':=ho'.trans hold;unfold Oper.wp;rw [h1]
  exact hK _ _ ⟨c',hold',(by unfold S.after;rw [S.setW_one];exact h2.putD o.dst (jn hd) (some u.val) v (fun y hy=>by
   simp only [bra] at hy;subst hy
   exact h3))⟩
 | conv sr ds x b hw hd ho hcv hp hM =>
  rw [if_pos (fg h hw)];unfold aei at hcv;split at hcv <;> try (cases hcv;done)
  rename_i ti td b' e1 e2 e3;split at hcv <;> try (cases hcv;done)
  rename_i el e4 e5;split at hcv <;> try (cases hcv;done)
  rename_i ei e6;split at hcv <;> try (cases hcv;done)
  rename_i e7;simp only [bra] at hcv;subst hcv;obtain ⟨_,d1,_,p1,q1,_⟩:=az (hE sr ti e1);obtain ⟨_,d2,_,p2,q2,_⟩:=az (hE ds td e2);obtain ⟨_,d3,_,p3,q3,_⟩:=az (hE el ei e6);have r1:d1 = .string:=by rw [e4] at q1;cases d1 <;> simp [j2] at q1 ⊢
  have r2:d2 = .slice el:=ej (q2.symm.trans e5)
  have r3:d3 = .int .u8:=by
   rw [e7] at q3;cases d3 <;> simp [j2] at q3 ⊢;exact q3.symm
  subst r1 r2 r3;have hev:a.eval x = .string b':=(ae h e3).1;have hrun:=run_bytes_of_string (P:=P) w sr ds el b' p1 p2 p3
  have hex:(execOp a.eval o).run P w = .ok (.value (.slice (some ⟨w.heap.size,0,none⟩) b'.size (grownCap w b'.size 0 el)))
   (w.drew.alloc (.cells (bytesRow b' (grownCap w b'.size 0 el)) el ((bytesRow b' (grownCap w b'.size 0 el)).size,(bytesRow b' (grownCap w b'.size 0 el)).size + 1))):=by
   unfold execOp;simp_all
  unfold Oper.wp;rw [hex];generalize hob:Obj.cells (bytesRow b' (grownCap w b'.size 0 el)) el ((bytesRow b' (grownCap w b'.size 0 el)).size,(bytesRow b' (grownCap w b'.size 0 el)).size + 1) = ob
  have h':=h.later (w.drew.alloc ob) ⟨rfl,rfl,rfl,by simp,fun k hk=>ap6 w _ hk,buu _⟩ (fun k=>if k = w.heap.size then some ob else c.imm k) (fun k hk=>if_neg bv9) (fun k ob' hk=>by
   by_cases hkk:k = w.heap.size
   · rw [if_pos hkk] at hk
     rw [hkk,<- Option.some.inj hk];exact heap_alloc_new w.drew _
   rw [if_neg hkk] at hk;have hw':=h.imm k ob' hk
   exact (ap6 w _ (brj.1 hw').1).trans hw')
  refine hK _ _ ⟨_,by exact hold,h'.putD o.dst (jn hd) (some (.v (.one (.p (.sl b'.size 1 false (ax2 b')))))) _ (fun y hy=>?_)⟩;simp only [bra] at hy;subst hy;refine ⟨some ⟨w.heap.size,0,none⟩,_,rfl,grownCap_ge w _ _ _,grownCap_le_maxLen w _ _ _ hp,(fun hf=>by cases hf),fun _=>⟨w.heap.size,0,rfl,fun i j hi hj=>?_⟩⟩;obtain rfl:j = 0:=by omega
  refine ⟨.int .u8 (c9 b' i), ?_,rfl,rfl⟩;unfold jb;dsimp only;rw [if_pos rfl,<- hob];dsimp only;unfold bytesRow c9;have hsz:b'.data.size = b'.size:=rfl;rw [Array.getElem?_append_left bvn]
  grind
 | call cl f fst caps args p vs b hw hd ho hc hf hv hp hco hpure hb hM =>
  rw [if_pos (fg h hw)];obtain ⟨fn,hfn,hname,hbody⟩:=hf;obtain ⟨q1,q2⟩:=a2q h (b2v h) hv hp
  obtain ⟨fo,us,cs,hcal,e1,hfst,hcapr⟩:∃ (fo:Operand) (us cs:List Value),cl.callee = .value fo /\ a.eval fo = .func (.func f) us.toArray cs.toArray /\ (∀ m:Imm,Imm.le c.imm m -> ct m fst us) /\ ∀ m:Imm,Imm.le c.imm m -> ct m caps cs:=by
   unfold callee at hc;split at hc <;> try (cases hc;done)
   rename_i fo hcal;split at hc <;> try (cases hc;done)
   · rename_i g k capf hfo
     simp only [bra,bri] at hc;obtain ⟨rfl,rfl,rfl⟩:=hc;obtain ⟨cs,e1,hcl,hcr⟩:=ae h hfo;refine ⟨fo,[],cs,hcal,e1,fun _ _=>trivial,fun m hm=>?_⟩
     have:=a0j (m:=m) (caps:=capf) k 0 cs bv9 (fun j hj=>by
      obtain ⟨x,hx,hr⟩:=hcr j bv9
      exact ⟨x,hx,ak.mono hm hr⟩)
     grind
   rename_i g k fr hfo;simp only [bra,bri] at hc;obtain ⟨rfl,rfl,rfl⟩:=hc;obtain ⟨cs,e1,hcl,hcr⟩:=ae h hfo;refine ⟨fo,[.agg cs.toArray],[],hcal,e1,fun m hm=>⟨⟨cs,rfl, ?_⟩,trivial⟩,fun _ _=>trivial⟩
   have:=ajt (m:=m) (f:=fr) k 0 cs bv9 (fun j hj=>by
    obtain ⟨x,hx,hr⟩:=hcr j bv9
    exact ⟨x,hx,ak.mono hm hr⟩)
   grind
  have hrun:(execOp a.eval o).run P w = .ok (.enter f (us ++ ((cl.args.toList.map a.eval) ++ cs)).toArray) w:=by
   unfold execOp;simp only [ho,resolve,hcal,bsk,e1,Deferred.ofValue,bsy,bs0,invoke,callFunc,run_program,hfn,hname,hbody];simp
  unfold Oper.wp;rw [hrun];rw [Oper.upon_enter]
  cases hbb:b with
  | false =>
   have hargs:ct c.imm args (us ++ (cl.args.toList.map a.eval ++ cs)):=CoL.sound hco (ct.append (hfst _ (Imm.le.refl _)) (ct.append (q2 hbb) (hcapr _ (Imm.le.refl _))));refine (hpure w c.imm _ c.tab h.imm hargs).mono ?_;rintro e w' ⟨v,imm',rfl,hr,h1,h2,h3⟩;have h':=h.later w' h3 imm' h1 h2
   exact hK _ _ ⟨_,by exact hold,h'.putD o.dst (jn hd) (some an.res.toH) v (fun y hy=>by
    simp only [bra] at hy;subst hy
    exact am.of_P hr)⟩
  | true =>
   have hflat:an.res.flat = true:=by rw [hbb] at hb;simpa using hb
   have hargs:ct (fq w) args (us ++ (cl.args.toList.map a.eval ++ cs)):=CoL.sound hco (ct.append (hfst _ (yh h)) (ct.append q1 (hcapr _ (yh h))));refine (hpure w (fq w) _ (c.tab.mono (yh h)) (fun _ _ hh=>hh) hargs).mono ?_;rintro e w' ⟨v,imm',rfl,hr,h1,h2,h3⟩
   have h':=h.later w' h3 (fun b=>if b < w.heap.size then c.imm b else none) (fun b hb=>by simp [hb]) (fun b ob hbo=>by
    by_cases hlt:b < w.heap.size
    · simp only [hlt,if_true] at hbo
      rw [h3.block b hlt];exact h.imm b ob hbo
    simp [hlt] at hbo)
   exact hK _ _ ⟨_,by exact hold,h'.putD o.dst (jn hd) (some an.res.toH) v (fun y hy=>by
    simp only [bra] at hy;subst hy
    exact am.of_P (sy.flat hflat hr))⟩
 | fcall cl f caps args hcs o1 o2 res fx hw hd ho hc hf hv hco hfun hsub hnew hnm hcl hclr hW hN hM =>
  rw [if_pos (fg h hw)];unfold w9 at hc;split at hc <;> try (cases hc;done)
  rename_i fo hcal;obtain ⟨fn,hfn,hname,hbody⟩:=hf
  obtain ⟨cs,e1,hcapr⟩:∃ cs:List Value,a.eval fo = .func (.func f) #[] cs.toArray /\ bu c s.o caps cs:=by
   split at hc <;> try (cases hc;done)
   · rename_i g k capf hfo
     simp only [bra,bri] at hc;obtain ⟨rfl,rfl⟩:=hc;obtain ⟨cs,e1,hcl',hcr⟩:=ae h hfo;refine ⟨cs,e1, ?_⟩
     have:=a0j (m:=c.imm) (caps:=capf) k 0 cs bv9 (fun j hj=>by
      obtain ⟨x,hx,hr⟩:=hcr j bv9
      exact ⟨x,hx,hr⟩)
     exact bu.of_P (by simpa using this)
   rename_i g k capf hfo;simp only [bra,bri] at hc;obtain ⟨rfl,rfl⟩:=hc;obtain ⟨cs,e1,hcl',hcr⟩:=ae h hfo;refine ⟨cs,e1, ?_⟩;have:=a5s (c:=c) (o:=s.o) (caps:=capf) k 0 cs bv9 (fun j hj=>hcr j bv9);simp_all
  have hrun:(execOp a.eval o).run P w = .ok (.enter f ((cl.args.toList.map a.eval) ++ cs).toArray) w:=by
   unfold execOp;simp only [ho,resolve,hcal,bsk,e1,Deferred.ofValue,bsy,bs0,invoke,callFunc,run_program,hfn,hname,hbody];simp
  have hargs:bu c s.o args (cl.args.toList.map a.eval ++ cs):=bu.co hco (bu.append (aag h hv) hcapr);obtain ⟨hmem,hto⟩:=h.lend hsub;unfold Oper.wp;rw [hrun];rw [Oper.upon_enter];refine (hfun w c _ hmem (hto _ _ hargs)).mono ?_;rintro e w' ⟨v,c',rfl,hr,hm',hbel,hfr,hbk,hfx⟩;obtain ⟨c'',q1,_,q2,q3⟩:=h.fcall hsub (fun id h2 h1=>hnew id h2 h1) (fun id h2 h1=>hnm id h2 h1) hcl hm' hbel hfr hbk hfx
  exact hK _ _ ⟨c'',q1.trans hold,q2.putD o.dst (jn hd) (some res) v (fun y hy=>by
   simp only [bra] at hy;subst hy
   exact q3 _ _ hr hclr)⟩
def a7w (hE:cr P E) {ro:Option Nat} {n:Nat} {x:Option HR} {wr:Wr} (he:Eff P E nt ops o an s x wr) (h:Rel w0 m0 nt s a w) {i:Nat} (hi:ops[i]? = some o) (hK:∀ a' w',Rel w0 m0 nt (s.after o.dst x wr) a' w' -> K a' w'):wpOpIn (rf ro) n P ops Q i K a w:=by
 have h1:=avm hE he h hi (Q:=Q) hK;unfold aw4 at h1;unfold wpOpIn;simp only [hi] at h1 ⊢;obtain ⟨c,hold,hr⟩:=h
 rcases he.nd with hn | hn
 · have hw:=fg hr hn
   rw [if_neg (by rw [hw];simp)] at h1 ⊢;exact ⟨fun _ _=>trivial,h1⟩
 split
 · rename_i hw
   rw [if_pos hw] at h1;exact a2b hn h1
 rename_i hw;rw [if_neg hw] at h1;exact ⟨fun _ _=>trivial,h1⟩
end
end
end
end Go.Hx

/- A part of the proof: Hx1. -/
import Derived.Below
import Derived.KernelRfl
import Derived.Laws.CopyOwn
import Derived.Laws.MakeOwn
import Derived.Laws.OwnMore
import Derived.Laws.Tables
import Derived.Maps.Keyed
import Derived.Orders
set_option linter.all false
namespace Go.Hx
section
open Go.RowKit
structure Below (B:Nat) (w w':World):Prop where
 os:w'.os = w.os
 tape:w'.tape = w.tape
 output:w'.output = w.output
 size:w.heap.size ≤ w'.heap.size
 block:∀ k,k < B → w'.heap[k]? = w.heap[k]?
 drawn:w.drawn ≤ w'.drawn
structure Grw (w w':World) (row:Option Nat):Prop where
 base:w.grownBy w' row
 drawn:w.drawn ≤ w'.drawn
theorem Grw.refl (w:World) (r:Option Nat):Grw w w r:=⟨World.grownBy.refl w r,Nat.le_refl _⟩
theorem Grw.alloc (w:World) (o:Obj) (r:Option Nat):Grw w (w.alloc o) r:=⟨World.grownBy_alloc w o r,Nat.le_refl _⟩
theorem Below.refl (B:Nat) (w:World):Below B w w:=⟨rfl,rfl,rfl,Nat.le_refl _,fun _ _=>rfl,Nat.le_refl _⟩
theorem Below.trans {B:Nat} {a b c:World} (h:Below B a b) (k:Below B b c):Below B a c :=
 ⟨k.os.trans h.os,k.tape.trans h.tape,k.output.trans h.output,Nat.le_trans h.size k.size,fun i hi=>(k.block i hi).trans (h.block i hi),Nat.le_trans h.drawn k.drawn⟩
theorem Below.mono {B B':Nat} {w w':World} (h:Below B w w') (hB:B' ≤ B):Below B' w w':=⟨h.os,h.tape,h.output,h.size,fun k hk=>h.block k (Nat.lt_of_lt_of_le hk hB),h.drawn⟩
theorem Below.drew {B:Nat} {a w:World} (h:Below B a w):Below B a w.drew:=⟨h.os,h.tape,h.output,h.size,h.block,Nat.le_trans h.drawn (Nat.le_succ _)⟩
theorem Below.alloc {B:Nat} {a w:World} (h:Below B a w) (hB:B ≤ w.heap.size) (o:Obj):Below B a (w.alloc o) :=
 have q:=Go.RowKit.Below.alloc (B:=B) (a:=a) (w:=w) ⟨h.os,h.tape,h.output,h.size,h.block⟩ hB o
 ⟨q.os,q.tape,q.output,q.size,q.block,h.drawn⟩
theorem Below.heap_alloc (w:World) (o:Obj) (k:Nat) (h:k < w.heap.size):(w.alloc o).heap[k]? = w.heap[k]?:=Go.RowKit.Below.heap_alloc w o k h
theorem Below.grown {B:Nat} {a w w':World} {row:Option Nat} (h:Below B a w) (hg:Grw w w' row) (hB:B ≤ w.heap.size) (hr:∀ k,row = some k → B ≤ k):Below B a w' :=
 h.trans ⟨hg.base.os,hg.base.tape,hg.base.output,hg.base.size,fun k hk=>hg.base.block k (by omega) (fun e=>by have:=hr k e.symm;omega),hg.drawn⟩
theorem yg {α:Type}:∀ (x:Ask α) (w:World),w.drawn ≤ (w.ask x).2.drawn
 | .done a,w=>Nat.le_refl _
 | .ask what range k,w=>by
  simp only [World.ask]
  split
  · exact yg _ _
  have h:=yg (k ((Question.extern what range).cut (w.tape w.drawn (Question.extern what range)))) { w with drawn:=w.drawn + 1 }
  grind
theorem aak (w:World) (c:Sys):w.drawn ≤ (w.sys c).2.drawn:=by
 have h:=yg (Kernel.perform c w.os) w
 unfold World.sys
 grind
theorem a1l {p:Program} {w:World} {at_:Addr} {u:TypeId} {k:Addr} {v:Value} {atomic:Bool} {r:World × List Addr} (h:w.viewStore p at_ u k v atomic = .ok r):r.1.drawn = w.drawn:=by
 unfold World.viewStore at h
 simp only [bind,Except.bind,pure,Except.pure] at h
 repeat' split at h
 all_goals first | (cases h;done) | (simp only [Except.ok.injEq] at h;subst h;rfl)
theorem a3c {p:Program} {w:World} {a:Addr} {v:Value} {atomic:Bool} {r:World × List Addr} (h:w.farStore p a v atomic = .ok r):r.1.drawn = w.drawn:=by
 unfold World.farStore at h
 split at h
 · split at h
   · rename_i r2 hr
     simp only [Except.ok.injEq] at h
     subst h
     exact a1l hr
   cases h
 cases h
theorem a6c (w:World) (a:Addr) (n:Nat):(w.freeze a n).drawn = w.drawn:=by
 unfold World.freeze
 split <;> rfl
theorem mw {α:Type} {P:Program}:∀ (x:Sem α) {w w':World} {v:α},x.run P w = .ok v w' → w.drawn ≤ w'.drawn:=by
 intro x
 induction x with
 | pure a=>intro w w' v h;simp only [Sem.run,Result.ok.injEq] at h;obtain ⟨_,rfl⟩:=h;exact Nat.le_refl _
 | load m a k ih =>
  intro w w' v h
  simp only [Sem.run] at h
  split at h
  · exact ih _ h
  split at h
  · exact ih _ h
  cases h
 | store m a x k ih =>
  intro w w' v h
  cases x <;> simp only [Sem.run] at h <;> first
   | (cases h;done)
   | (split at h
      · split at h
        · cases h
        have q:=ih h
        exact q
      split at h
      · rename_i hf
        exact Nat.le_trans (Nat.le_of_eq (a3c hf).symm) (ih h)
      cases h)
 | new o k ih=>intro w w' v h;simp only [Sem.run] at h;have q:=ih _ h;exact q
 | shape r k ih=>intro w w' v h;simp only [Sem.run] at h;exact ih _ h
 | freeze a n k ih=>intro w w' v h;simp only [Sem.run] at h;exact Nat.le_trans (Nat.le_of_eq (a6c w a n).symm) (ih h)
 | frozen a k ih=>intro w w' v h;simp only [Sem.run] at h;exact ih _ h
 | getObj r k ih =>
  intro w w' v h
  simp only [Sem.run] at h
  split at h
  · cases h
  · exact ih _ h
  cases h
 | setObj r o k ih =>
  intro w w' v h
  simp only [Sem.run] at h
  split at h
  · cases h
  · have q:=ih h
    exact q
  cases h
 | choose q k ih =>
  intro w w' v h
  simp only [Sem.run] at h
  split at h
  · exact ih _ h
  have q:=ih _ h
  exact Nat.le_trans (Nat.le_succ w.drawn) q
 | sys c k ih=>intro w w' v h;simp only [Sem.run] at h;exact Nat.le_trans (aak w c) (ih _ h)
 | program k ih=>intro w w' v h;simp only [Sem.run] at h;exact ih _ h
 | mark m k ih=>intro w w' v h;simp only [Sem.run] at h;exact ih h
 | halt hh=>intro w w' v h;simp only [Sem.run] at h;cases h
inductive KK where
 | int (q:IntKind)
 | str
 | pstr (b:Nat)
inductive MK where
 | i (q:IntKind) (n:Int)
 | s (b:ByteArray)
def MK.val:MK → Value
 | .i q n=>.int q n
 | .s b=>.string b
def MK.ok:KK → MK → Prop
 | .int q, .i q' n=>q' = q ∧ (Lit.int q n).wf = true
 | .str, .s b=>b.size ≤ maxLen
 | .pstr _, .s b=>b.size ≤ maxLen
 | _,_=>False
def KK.base:KK → KK
 | .pstr _=>.str
 | k=>k
def KK.has:KK → Nat → Prop
 | .pstr b',b=>b' = b
 | _,_=>True
theorem MK.ok_base {kk:KK} {m:MK}:MK.ok kk.base m ↔ MK.ok kk m:=by cases kk <;> cases m <;> exact Iff.rfl
def MK.same:MK → MK → Bool
 | .i q n, .i q' n'=>decide (q = q') && decide (n = n')
 | .s b, .s b'=>decide (b = b')
 | _,_=>false
theorem MK.same_iff {x y:MK}:x.same y = true ↔ x = y:=by
 cases x <;> cases y <;> simp [MK.same]
theorem MK.val_inj {x y:MK} (h:x.val = y.val):x = y:=by
 cases x <;> cases y <;> simp [MK.val] at h ⊢ <;> exact h
inductive PV where
 | raw (v:Value)
 | any
 | sl (n s:Nat) (clip:Bool) (f:Nat → Nat → PV)
 | vp (m:Nat) (f:Nat → PV)
 | fn (g:FuncId) (k:Nat) (caps:Nat → PV)
 | bnd (g:FuncId) (m:Nat) (f:Nat → PV)
 | mp (kk:KK) (n:Nat) (has:MK → Bool) (f:MK → PV)
abbrev Imm:=Nat → Option Obj
def i4 (m:Imm) (b off:Nat):Option Value :=
 match m b with
 | some (.cells cs _ _)=>cs[off]?
 | _=>none
def bc (m:Imm):PV → Value → Prop
 | .raw v,u=>u = v ∧ v.oneCell' = true
 | .any,u=>u.oneCell' = true
 | .sl n s clip f,u=>∃ a cap,u = .slice a n cap ∧ n ≤ cap ∧ cap ≤ maxLen ∧ (clip = true → cap = n) ∧
  (0 < n → ∃ b off,a = some ⟨b,off,none⟩ ∧ ∀ i j,i < n → j < s → ∃ x,i4 m b (off + (i * s + j)) = some x ∧ bc m (f i j) x)
 | .vp k f,u=>∃ b off,u = .pointer (some ⟨b,off,none⟩) ∧ ∀ j,j < k → ∃ x,i4 m b (off + j) = some x ∧ bc m (f j) x
 | .fn g k caps,u=>∃ cs:List Value,u = .func (.func g) #[] cs.toArray ∧ cs.length = k ∧ ∀ i,i < k → ∃ x,cs[i]? = some x ∧ bc m (caps i) x
 | .bnd g k f,u=>∃ cs:List Value,u = .func (.func g) #[.agg cs.toArray] #[] ∧ cs.length = k ∧ ∀ i,i < k → ∃ x,cs[i]? = some x ∧ bc m (f i) x
 | .mp kk n has f,u=>∃ b es clock,u = .map (some b) ∧ m b = some (.map es clock) ∧ Go.MapKept.Stamped es clock ∧ es.size ≤ n ∧ es.size ≤ maxLen ∧
  (∀ x ∈ es.toList,∃ key,x.key = key.val ∧ has key = true ∧ bc m (f key) x.val) ∧ ∀ key,has key = true → MK.ok kk key ∧ ∃ x ∈ es.toList,x.key = key.val
def Imm.le (m m':Imm):Prop:=∀ b o,m b = some o → m' b = some o
theorem Imm.le.refl (m:Imm):Imm.le m m:=fun _ _ h=>h
theorem Imm.le.trans {a b c:Imm} (h:Imm.le a b) (k:Imm.le b c):Imm.le a c:=fun x o hx=>k x o (h x o hx)
theorem tn {m m':Imm} (h:Imm.le m m') {b off:Nat} {x:Value} (hc:i4 m b off = some x):i4 m' b off = some x:=by
 unfold i4 at *
 cases hb:m b with
 | none=>rw [hb] at hc;cases hc
 | some o=>rw [hb] at hc;rw [h b o hb];exact hc
theorem bc.mono {m m':Imm} (h:Imm.le m m'):∀ {x:PV} {u:Value},bc m x u → bc m' x u:=by
 intro x
 induction x with
 | raw v=>intro u hu;exact hu
 | any=>intro u hu;exact hu
 | sl n s clip f ih =>
  rintro u ⟨a,cap,h1,h2,h3,h4,h5⟩
  refine ⟨a,cap,h1,h2,h3,h4,fun hn=>?_⟩
  obtain ⟨b,off,ha,hc⟩:=h5 hn
  exact ⟨b,off,ha,fun i j hi hj=>by
   obtain ⟨x,hx,hr⟩:=hc i j hi hj
   exact ⟨x,tn h hx,ih i j hr⟩⟩
 | vp k f ih =>
  rintro u ⟨b,off,h1,hc⟩
  exact ⟨b,off,h1,fun j hj=>by
   obtain ⟨x,hx,hr⟩:=hc j hj
   exact ⟨x,tn h hx,ih j hr⟩⟩
 | fn g k caps ih =>
  rintro u ⟨cs,h1,h2,hc⟩
  exact ⟨cs,h1,h2,fun i hi=>by
   obtain ⟨x,hx,hr⟩:=hc i hi
   exact ⟨x,hx,ih i hr⟩⟩
 | bnd g k f ih =>
  rintro u ⟨cs,h1,h2,hc⟩
  exact ⟨cs,h1,h2,fun i hi=>by
   obtain ⟨x,hx,hr⟩:=hc i hi
   exact ⟨x,hx,ih i hr⟩⟩
 | mp kk n has f ih =>
  rintro u ⟨b,es,clock,h1,h2,h3,h4,h5,h6,h7⟩
  exact ⟨b,es,clock,h1,h _ _ h2,h3,h4,h5,fun x hx=>by
   obtain ⟨key,k1,k2,k3⟩:=h6 x hx
   exact ⟨key,k1,k2,ih key k3⟩,h7⟩
theorem bc.oneCell {m:Imm} {x:PV} {u:Value} (h:bc m x u):u.oneCell' = true:=by
 cases x with
 | raw v=>obtain ⟨rfl,h⟩:=h;exact h
 | any=>exact h
 | sl n s clip f=>obtain ⟨a,cap,rfl,_⟩:=h;rfl
 | vp k f=>obtain ⟨b,off,rfl,_⟩:=h;rfl
 | fn g k caps=>obtain ⟨cs,rfl,_⟩:=h;rfl
 | bnd g k f=>obtain ⟨cs,rfl,_⟩:=h;rfl
 | mp kk n has f=>obtain ⟨b,es,clock,rfl,_⟩:=h;rfl
def eb (m:Imm):List PV → List Value → Prop
 | [],[]=>True
 | x :: xs,u :: us=>bc m x u ∧ eb m xs us
 | _,_=>False
theorem eb.length {m:Imm}:∀ {xs:List PV} {us:List Value},eb m xs us → us.length = xs.length
 | [],[],_=>rfl
 | x :: xs,u :: us,h=>by simp [h.2.length]
 | [],_ :: _,h=>h.elim
 | _ :: _,[],h=>h.elim
theorem eb.mono {m m':Imm} (h:Imm.le m m'):∀ {xs:List PV} {us:List Value},eb m xs us → eb m' xs us
 | [],[],_=>trivial
 | _ :: _,_ :: _,hr=>⟨hr.1.mono h,eb.mono h hr.2⟩
 | [],_ :: _,hr=>hr.elim
 | _ :: _,[],hr=>hr.elim
theorem eb.get {m:Imm}:∀ {xs:List PV} {us:List Value},eb m xs us → ∀ (i:Nat) (x:PV),xs[i]? = some x → ∃ u,us[i]? = some u ∧ bc m x u
 | _ :: _,_ :: _,h,0,x,hx=>by simp at hx;subst hx;exact ⟨_,rfl,h.1⟩
 | _ :: _,_ :: _,h,i + 1,x,hx=>by
  obtain ⟨u,hu,hr⟩:=eb.get h.2 i x (by simpa using hx)
  grind
 | [],_,_,i,x,hx=>by simp at hx
 | _ :: _,[],h,_,_,_=>h.elim
theorem eb.of_get {m:Imm}:∀ {xs:List PV} {us:List Value},us.length = xs.length → (∀ (i:Nat) (x:PV) (u:Value),xs[i]? = some x → us[i]? = some u → bc m x u) → eb m xs us
 | [],[],_,_=>trivial
 | x :: xs,u :: us,hl,h=>⟨h 0 x u rfl rfl,eb.of_get (by simpa using hl) fun i y v hy hv=>h (i + 1) y v (by simpa using hy) (by simpa using hv)⟩
 | [],_ :: _,hl,_=>by simp at hl
 | _ :: _,[],hl,_=>by simp at hl
inductive PC where
 | one (x:PV)
 | agg (l:List PV)
inductive PR where
 | v (c:PC)
 | tup (l:List PC)
def fz (m:Imm):PC → Value → Prop
 | .one x,u=>bc m x u
 | .agg l,u=>∃ us:List Value,u = .agg us.toArray ∧ eb m l us
def ce (m:Imm):List PC → List Value → Prop
 | [],[]=>True
 | x :: xs,u :: us=>fz m x u ∧ ce m xs us
 | _,_=>False
def kn (m:Imm):PR → Value → Prop
 | .v c,u=>fz m c u
 | .tup l,u=>∃ us:List Value,u = .tuple us.toArray ∧ ce m l us
theorem fz.mono {m m':Imm} (h:Imm.le m m') {x:PC} {u:Value} (hr:fz m x u):fz m' x u:=by
 cases x with
 | one x=>exact bc.mono h hr
 | agg l=>obtain ⟨us,e,hl⟩:=hr;exact ⟨us,e,hl.mono h⟩
theorem ce.mono {m m':Imm} (h:Imm.le m m'):∀ {xs:List PC} {us:List Value},ce m xs us → ce m' xs us
 | [],[],_=>trivial
 | _ :: _,_ :: _,hr=>⟨hr.1.mono h,ce.mono h hr.2⟩
 | [],_ :: _,hr=>hr.elim
 | _ :: _,[],hr=>hr.elim
theorem ce.length {m:Imm}:∀ {xs:List PC} {us:List Value},ce m xs us → us.length = xs.length
 | [],[],_=>rfl
 | x :: xs,u :: us,h=>by simp [h.2.length]
 | [],_ :: _,h=>h.elim
 | _ :: _,[],h=>h.elim
theorem ce.get {m:Imm}:∀ {xs:List PC} {us:List Value},ce m xs us → ∀ (i:Nat) (x:PC),xs[i]? = some x → ∃ u,us[i]? = some u ∧ fz m x u
 | _ :: _,_ :: _,h,0,x,hx=>by simp at hx;subst hx;exact ⟨_,rfl,h.1⟩
 | _ :: _,_ :: _,h,i + 1,x,hx=>by
  obtain ⟨u,hu,hr⟩:=ce.get h.2 i x (by simpa using hx)
  grind
 | [],_,_,i,x,hx=>by simp at hx
 | _ :: _,[],h,_,_,_=>h.elim
theorem kn.mono {m m':Imm} (h:Imm.le m m') {x:PR} {u:Value} (hr:kn m x u):kn m' x u:=by
 cases x with
 | v x=>exact fz.mono h hr
 | tup l=>obtain ⟨us,e,hl⟩:=hr;exact ⟨us,e,hl.mono h⟩
theorem aeq {P:Program} {k:TypeId} {x:MapEntry} {l:Lit} (h:keyOf P k x.key = some l):Go.WideElems.rd P k (fun v=>some (DataW.held (H:=Value) v,[])) x = some (l, .held x.val):=by
 obtain ⟨k0,v0,b0⟩:=x
 exact Go.WideElems.rd_mk (R:=fun v=>some (DataW.held (H:=Value) v,[])) (yv:=(DataW.held v0,[])) h rfl
theorem ac8 {P:Program} {k e t:TypeId} {w:World} {b:Nat} {es:Array MapEntry} {clock:Nat} (cm:Bool) (K:Go.Maps.Keyed P k) (ht:P.underlying t = some (.map k e)) {z:Value} (hz:(zeroValue e).run P w = .ok z w)
 (hb:w.heap[b]? = some (.map es clock)) (hs:es.size ≤ maxLen) (hst:Go.MapKept.Stamped es clock) (hk:∀ x ∈ es.toList,∃ l,keyOf P k x.key = some l) {key:Value} {kl:Lit} (hkey:keyOf P k key = some kl) :
 ((Instr.lookup t (.map (some b)) key cm).run P w = .ok (if cm then .tuple #[z, .bool false] else z) w ∧ ∀ x ∈ es.toList,x.key ≠ key) ∨
 ∃ e0,e0 ∈ es.toList ∧ e0.key = key ∧ (Instr.lookup t (.map (some b)) key cm).run P w = .ok (if cm then .tuple #[e0.val, .bool true] else e0.val) w:=by
 have F:Go.WideElems.Fit P k (fun v=>some (DataW.held (H:=Value) v,[])) es clock:=⟨hs,hst,fun x hx=>by
  obtain ⟨l,hl⟩:=hk x hx
  exact ⟨_,aeq hl⟩⟩
 rcases Go.Maps.fit_look cm K ht hz hb F hkey with ⟨h1,h2,_⟩ | ⟨e0,_,h1,h2,h3,_⟩
 · grind
 grind
theorem a9y {P:Program} {k e t:TypeId} {w:World} {b:Nat} {es:Array MapEntry} {clock:Nat} (K:Go.Maps.Keyed P k) (ht:P.underlying t = some (.map k e))
 (hb:w.heap[b]? = some (.map es clock)) (hs:es.size < maxLen) (hst:Go.MapKept.Stamped es clock) (hk:∀ x ∈ es.toList,∃ l,keyOf P k x.key = some l) {key val:Value} {kl:Lit} (hkey:keyOf P k key = some kl) :
 ∃ es' clock',(Instr.mapUpdate t (.map (some b)) key val).run P w = .ok () (Go.ChangeMaps.setBlock w b (.map es' clock')) ∧ Go.MapKept.Stamped es' clock' ∧ es'.size ≤ es.size + 1 ∧
  (∀ x' ∈ es'.toList,(x' ∈ es.toList ∧ x'.key ≠ key) ∨ (x'.key = key ∧ x'.val = val)) ∧ (∃ x' ∈ es'.toList,x'.key = key) ∧ ∀ x ∈ es.toList,∃ x' ∈ es'.toList,x'.key = x.key:=by
 rcases K.find w hkey es.toList hk with ⟨h1,h2⟩ | ⟨j,e0,h1,h2,h3⟩
 · refine ⟨es.push ⟨key,val,clock⟩,clock + 1, ?_,Go.MapKept.stamped_push hst h2,by simp, ?_,⟨⟨key,val,clock⟩,by simp,rfl⟩,fun x hx=>⟨x,by simp only [Array.toList_push,List.mem_append];exact .inl hx,rfl⟩⟩
   · simp [Instr.mapUpdate,run_underlying ht,MapKept.run_getObj_map hb,K.check w false hkey,h1,MapKept.run_setObj_map _ hb,Result.andThen,Go.ChangeMaps.setBlock]
   grind
 have hj:es[j]? = some e0:=by simpa using h2
 have hjl:j < es.toList.length:=(List.getElem?_eq_some_iff.1 h2).1
 have hlist:(es.modify j (fun e'=>{ e' with key:=key,val:=val })).toList = es.toList.set j { e0 with key:=key,val:=val }:=by rw [Array.toList_modify,Go.ChangeMaps.modify_eq_set _ _ _ _ h2]
 have hpw:=((Go.MapKept.stamped_iff es clock).1 hst).2.2
 have hne:∀ i x,es.toList[i]? = some x → i ≠ j → x.key ≠ key:=fun i x hi hij he=>by
  have hi':=List.getElem?_eq_some_iff.1 hi
  have hj':=List.getElem?_eq_some_iff.1 h2
  obtain ⟨hi1,hi2⟩:=hi'
  obtain ⟨hj1,hj2⟩:=hj'
  rcases Nat.lt_or_gt_of_ne hij with hlt | hgt
  · have:=List.pairwise_iff_getElem.1 hpw i j hi1 hj1 hlt
    grind
  have:=List.pairwise_iff_getElem.1 hpw j i hj1 hi1 hgt
  grind
 refine ⟨es.modify j (fun e'=>{ e' with key:=key,val:=val }),clock, ?_,Go.MapKept.stamped_modify hst _ _ (fun _ _=>rfl) (fun e' _ he'=>by rw [hj] at he';cases he';exact h3.symm),by simp, ?_, ?_, ?_⟩
 · simp [Instr.mapUpdate,run_underlying ht,MapKept.run_getObj_map hb,K.check w false hkey,h1,hj,h3,K.stays w hkey,MapKept.run_setObj_map _ hb,Result.andThen,Go.ChangeMaps.setBlock]
 · intro x hx
   rw [hlist] at hx
   obtain ⟨i,hi,ex⟩:=List.getElem_of_mem hx
   rw [List.getElem_set] at ex
   split at ex
   · grind
   rename_i hij
   have hi':i < es.toList.length:=by simpa using hi
   exact .inl ⟨ex ▸ List.getElem_mem hi',hne i x (by rw [List.getElem?_eq_getElem hi',ex]) (fun h=>hij h.symm)⟩
 · rw [hlist]
   exact ⟨{ e0 with key:=key,val:=val },List.mem_iff_getElem.2 ⟨j,by simpa using hjl,by simp⟩,rfl⟩
 intro x hx
 rw [hlist]
 obtain ⟨i,hi,ex⟩:=List.getElem_of_mem hx
 by_cases hij:i = j
 · refine ⟨{ e0 with key:=key,val:=val },List.mem_iff_getElem.2 ⟨j,by simpa using hjl,by simp⟩, ?_⟩
   grind
 exact ⟨x,List.mem_iff_getElem.2 ⟨i,by simpa using hi,by rw [List.getElem_set,if_neg (fun h=>hij h.symm)];exact ex⟩,rfl⟩
def uq:Nat → List Value:=fun _=>[]
def ae9:Option (Nat × Nat):=none
def a2z (b off:Nat):Option Value:=(uq b)[off]?
def mi (m:Imm):Prop:=∀ b off v,a2z b off = some v → i4 m b off = some v
theorem mi.mono {m m':Imm} (h:mi m) (hle:Imm.le m m'):mi m':=fun b off v hv=>tn hle (h b off v hv)
end
end Go.Hx
